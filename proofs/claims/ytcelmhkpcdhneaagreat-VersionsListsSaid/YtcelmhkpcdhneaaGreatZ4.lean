/- The proof that VersionsLists holds for every input, without conditions: part 4 of 5. -/
import Derived.Test.YtcelmhkpcdhneaaGreatZ3
namespace Go.Proofs.YtcelmhkpcdhneaaGreat
open Go.Own
attribute [local irreducible] St Ops Go.Own.Fin Ok OkB OkN OkT OkL OkF
def ascB : List Cl → Bool
  | x :: y :: r => decide (cmpC x y < 0) && ascB (y :: r)
  | _ => true
theorem ascB_iff : ∀ {l : List Cl}, ascB l = true ↔ Asc l
  | [] => ⟨fun _ => trivial, fun _ => rfl⟩
  | [_] => ⟨fun _ => trivial, fun _ => rfl⟩
  | x :: y :: r => by
    show (decide (cmpC x y < 0) && ascB (y :: r)) = true ↔ (cmpC x y < 0 ∧ Asc (y :: r))
    rw [Bool.and_eq_true, decide_eq_true_iff, ascB_iff (l := y :: r)]
theorem asc_of : ∀ {l : List Cl}, (∀ i, i + 1 < l.length → cmpC (l.getD i c0) (l.getD (i + 1) c0) < 0) → Asc l
  | [], _ => trivial
  | [_], _ => trivial
  | x :: y :: r, h => ⟨by simpa using h 0 (by simp), asc_of (l := y :: r) (fun i hi => by simpa using h (i + 1) (by simp at hi ⊢; omega))⟩
theorem ascB_no {l : List Cl} (h : ¬ Asc l) : ascB l = false := by
  cases e : ascB l with
  | false => rfl
  | true => exact absurd (ascB_iff.1 e) h
set_option maxHeartbeats 4000000 in
theorem ascending_gen (l : List Cl) (hl : l.length ≤ 1000) : Ok Tryz.prog 44 [clsC l] (boolC (ascB l)) := by
  refine Ok.enter Tryz.func44 rfl _ Tryz.ntmps44 rfl ?_
  intro S w
  (refine Qw (Qx fun K hK => ?_); refine Qy rfl rfl rfl ?_; refine Qv (hK _ _ (Qq (Qw (Qw ?_)))); clear hK K; refine Qx (fun K hK => ?_); refine Qy rfl rfl rfl ?_; refine Qv (hK _ _ (Qq (Q4 ?_))); clear hK K)
  refine Qt (α := Nat) (fun i => i ≤ l.length ∧ ∀ j, j < i → j + 1 < l.length → cmpC (l.getD j c0) (l.getD (j + 1) c0) < 0)
    (fun i => [(0, .ct (clsC l)), (3, .ct (intC (i + 1)))]) (fun _ => []) (fun i => l.length - i) 0 ⟨Nat.zero_le _, fun j h => absurd h (Nat.not_lt_zero j)⟩ (by exact QK rfl ⟨rfl, rfl, trivial⟩) ?_
  rintro i ⟨hi, hv⟩
  dsimp only at hi hv ⊢
  (refine Qw (Qw (Qx fun K hK => ?_)); refine Qz rfl rfl rfl ?_; refine Qz rfl rfl rfl ?_; refine Qd rfl rfl (by with_reducible first | exact sClaims.und | exact sInts.und | exact sLists.und) (List.length_map ..) rfl ?_; refine Qk ilss rfl rfl rfl rfl ?_; refine Qv (hK _ _ (Qq ?_)); clear hK K)
  refine Q7 rfl (fun h => ?_) (fun h => ?_)
  · have e1 : ((i : Int) + 1 - 1).toNat = i := by omega
    have e2 : ((i : Int) + 1).toNat = i + 1 := by omega
    (refine Q5 (Qq (Qw (Q4 (Qw ?_)))))
    refine Qp (by with_reducible exact mixed) 11 (.p 0 (.p 1 (.p 2 (.p 3 (.p 5 (.p 6 (.p 7 (.f 4 (.f 8 (.m 9 (.p 10 .done))))))))))) (by kernel_rfl) (fun K hK => ?_)
    (refine Qz rfl rfl rfl ?_; refine Qz rfl rfl rfl ?_; refine Qk (isub (by omega) (by omega)) rfl rfl rfl rfl ?_; refine Ql rfl rfl rfl (by with_reducible exact sClaims) (by omega) (Xg (by omega) (by omega)) rfl ?_; refine Qz rfl rfl rfl ?_; refine Qz rfl rfl rfl ?_; refine Ql rfl rfl rfl (by with_reducible exact sClaims) (by omega) (Xg (by omega) (by omega)) rfl ?_; refine Qs (n := 7) rfl rfl rfl (by with_reducible exact Xz) rfl rfl ?_; refine Qs (n := 7) rfl rfl rfl (by with_reducible exact Xz) rfl rfl ?_)
    rw [e1, e2]
    refine Q3 goACmp (ACmp_ok _ _) rfl rfl rfl rfl ?_
    (refine Qk igeq rfl rfl rfl rfl ?_; refine Qv (hK _ _ (Qq ?_)); clear hK K)
    refine Q7 rfl (fun h4 => ?_) (fun h4 => ?_)
    · have e : ascB l = false := ascB_no (fun ha => by have := ha.at (i := i) (by omega); omega)
      (refine Qw (Qx fun K hK => ?_); refine Qy rfl rfl rfl ?_; refine Qv (hK _ _ (Qq (Q0 (Q6 (QV (QV (Q6 (QV ?_)))))))); clear hK K)
      refine Q1 [_] rfl (QJ rfl QX) (by rw [e]; rfl) rfl
    · (refine Q5 (Qq (Qx fun K hK => ?_)); refine Qz rfl rfl rfl ?_; refine Qk (iadd (by omega) (by omega)) rfl rfl rfl rfl ?_; refine Qy rfl rfl rfl ?_; refine Qv (hK _ _ (Qa ?_)); clear hK K)
      refine Qg (i + 1) (by omega) ⟨by omega, fun j hj hj2 => ?_⟩ (by exact QK rfl ⟨rfl, by simp only [Int.natCast_add]; rfl, trivial⟩)
      rcases Nat.lt_or_ge j i with h5 | h5
      · exact hv j h5 hj2
      · have : j = i := by omega
        subst this; omega
  · have e : ascB l = true := ascB_iff.2 (asc_of fun j hj => hv j (by omega) hj)
    (refine Qh (Qq (Qw (Qx fun K hK => ?_))); refine Qy rfl rfl rfl ?_; refine Qv (hK _ _ (Qq (Q0 ?_))); clear hK K)
    refine Q1 [_] rfl (QJ rfl QX) (by rw [e]; rfl) rfl
set_option maxHeartbeats 16000000 in
theorem aValid_gen (c : Cl) : Ok Tryz.prog 72 [clC c] (boolC (validC c)) := by
  obtain ⟨k, a, b, lo, hi, t, s⟩ := c
  refine Ok.enter Tryz.func72 rfl _ Tryz.ntmps72 rfl ?_
  intro S w
  rcases (show k = 1 ∨ k = 2 ∨ k = 3 ∨ k = 4 ∨ k = 5 ∨ k = 6 ∨ (k < 1 ∨ 6 < k) by omega) with rfl | rfl | rfl | rfl | rfl | rfl | h7
  · (refine Qw (Qx fun K hK => ?_); refine Qf 0 rfl rfl rfl rfl rfl rfl rfl ?_; refine Qy rfl rfl rfl ?_; refine Qv (hK _ _ (Qq (Qw (Qw ?_)))); clear hK K; refine Qx (fun K hK => ?_); refine Qu rfl rfl rfl (by with_reducible first | exact fK0 | exact fK1 | exact fK2 | exact fK3 | exact fK4 | exact fK5 | exact fK6 | exact fE0 | exact fE1 | exact fE2 | exact fE3 | exact fA0 | exact fD0 | exact fD1) rfl ?_; refine QQ rfl rfl rfl rfl rfl (by with_reducible first | exact lInt | exact QU | exact QW | exact QY | exact lIDs) rfl ?_; refine Qv (hK _ _ (Qq (Q4 (Qw (Q4 (Qw (Q4 (Qw (Q4 (Qw (Q4 (Qw (Qw (Qw (Qw ?_))))))))))))))); clear hK K; refine Qx (fun K hK => ?_); refine Qk ieql rfl rfl rfl rfl ?_; refine Qy rfl rfl rfl ?_; refine Qv (hK _ _ (Qq (Qe rfl ?_))); clear hK K; refine Qx (fun K hK => ?_); refine Qk ieql rfl rfl rfl rfl ?_; refine Qy rfl rfl rfl ?_; refine Qv (hK _ _ (Qq (Qe rfl (Q5 (Qq (Qw (Qw ?_))))))); clear hK K; refine Qx (fun K hK => ?_); refine Qk ieql rfl rfl rfl rfl ?_; refine Qy rfl rfl rfl ?_; refine Qv (hK _ _ (Qq (Qc rfl (Qh (Qq (Qw (Qw ?_))))))); clear hK K; refine Qx (fun K hK => ?_); refine Qu rfl rfl rfl (by with_reducible first | exact fK0 | exact fK1 | exact fK2 | exact fK3 | exact fK4 | exact fK5 | exact fK6 | exact fE0 | exact fE1 | exact fE2 | exact fE3 | exact fA0 | exact fD0 | exact fD1) rfl ?_; refine QQ rfl rfl rfl rfl rfl (by with_reducible first | exact lInt | exact QU | exact QW | exact QY | exact lIDs) rfl ?_; refine Qk ieql rfl rfl rfl rfl ?_; refine Qv (hK _ _ (Qq ?_)); clear hK K)
    refine Q7 rfl (fun g2 => ?_) (fun g2 => ?_)
    · have e : validC ⟨1, a, b, lo, hi, t, s⟩ = false := decide_eq_false (by unfold ValidP; (try dsimp only at g1); (try dsimp only at g2); (try dsimp only at h1); (try dsimp only at h2); (try dsimp only at h3); dsimp only; omega)
      (refine Qw (Qx fun K hK => ?_); refine Qy rfl rfl rfl ?_; refine Qv (hK _ _ (Qq (Q0 (QV (Q6 (QV (Q6 (QV (Q6 (QV ?_)))))))))); clear hK K)
      refine Q1 [_] rfl (QJ rfl QX) (by rw [e]; rfl) rfl
    (refine Q5 (Qq (Qh (Qq (Qw (Qx fun K hK => ?_))))); refine Qu rfl rfl rfl (by with_reducible first | exact fK0 | exact fK1 | exact fK2 | exact fK3 | exact fK4 | exact fK5 | exact fK6 | exact fE0 | exact fE1 | exact fE2 | exact fE3 | exact fA0 | exact fD0 | exact fD1) rfl ?_; refine QQ rfl rfl rfl rfl rfl (by with_reducible first | exact lInt | exact QU | exact QW | exact QY | exact lIDs) rfl ?_; refine Qk ineq rfl rfl rfl rfl ?_; refine Qz rfl rfl rfl ?_)
    refine Q8 25 rfl (fun h1 => ?_) (fun h1 => ?_)
    · (refine Qu rfl rfl rfl (by with_reducible first | exact fK0 | exact fK1 | exact fK2 | exact fK3 | exact fK4 | exact fK5 | exact fK6 | exact fE0 | exact fE1 | exact fE2 | exact fE3 | exact fA0 | exact fD0 | exact fD1) rfl ?_; refine QQ rfl rfl rfl rfl rfl (by with_reducible first | exact lInt | exact QU | exact QW | exact QY | exact lIDs) rfl ?_; refine Qu rfl rfl rfl (by with_reducible first | exact fK0 | exact fK1 | exact fK2 | exact fK3 | exact fK4 | exact fK5 | exact fK6 | exact fE0 | exact fE1 | exact fE2 | exact fE3 | exact fA0 | exact fD0 | exact fD1) rfl ?_; refine QQ rfl rfl rfl rfl rfl (by with_reducible first | exact lInt | exact QU | exact QW | exact QY | exact lIDs) rfl ?_; refine Qu rfl rfl rfl (by with_reducible first | exact fK0 | exact fK1 | exact fK2 | exact fK3 | exact fK4 | exact fK5 | exact fK6 | exact fE0 | exact fE1 | exact fE2 | exact fE3 | exact fA0 | exact fD0 | exact fD1) rfl ?_; refine QQ rfl rfl rfl rfl rfl (by with_reducible first | exact lInt | exact QU | exact QW | exact QY | exact lIDs) rfl ?_; refine Z5 rfl rfl rfl rfl rfl ?_; refine Qk igeq rfl rfl rfl rfl ?_; refine QZ rfl rfl rfl rfl ?_; refine Qz rfl rfl rfl ?_)
      refine Q8 35 rfl (fun h2 => ?_) (fun h2 => ?_)
      · (refine Qu rfl rfl rfl (by with_reducible first | exact fK0 | exact fK1 | exact fK2 | exact fK3 | exact fK4 | exact fK5 | exact fK6 | exact fE0 | exact fE1 | exact fE2 | exact fE3 | exact fA0 | exact fD0 | exact fD1) rfl ?_; refine QQ rfl rfl rfl rfl rfl (by with_reducible first | exact lInt | exact QU | exact QW | exact QY | exact lIDs) rfl ?_; refine Qu rfl rfl rfl (by with_reducible first | exact fK0 | exact fK1 | exact fK2 | exact fK3 | exact fK4 | exact fK5 | exact fK6 | exact fE0 | exact fE1 | exact fE2 | exact fE3 | exact fA0 | exact fD0 | exact fD1) rfl ?_; refine QQ rfl rfl rfl rfl rfl (by with_reducible first | exact lInt | exact QU | exact QW | exact QY | exact lIDs) rfl ?_; refine Qu rfl rfl rfl (by with_reducible first | exact fK0 | exact fK1 | exact fK2 | exact fK3 | exact fK4 | exact fK5 | exact fK6 | exact fE0 | exact fE1 | exact fE2 | exact fE3 | exact fA0 | exact fD0 | exact fD1) rfl ?_; refine QQ rfl rfl rfl rfl rfl (by with_reducible first | exact lInt | exact QU | exact QW | exact QY | exact lIDs) rfl ?_; refine Z6 rfl rfl rfl rfl rfl ?_; refine Qk ileq rfl rfl rfl rfl ?_; refine QZ rfl rfl rfl rfl ?_; refine Qz rfl rfl rfl ?_)
        refine Q8 45 rfl (fun h3 => ?_) (fun h3 => ?_)
        · have e : validC ⟨1, a, b, lo, hi, t, s⟩ = decide (0 ≤ s) := decide_eq_decide.2 (by unfold ValidP; (try dsimp only at g1); (try dsimp only at g2); (try dsimp only at h1); (try dsimp only at h2); (try dsimp only at h3); dsimp only; omega)
          (refine Qu rfl rfl rfl (by with_reducible first | exact fK0 | exact fK1 | exact fK2 | exact fK3 | exact fK4 | exact fK5 | exact fK6 | exact fE0 | exact fE1 | exact fE2 | exact fE3 | exact fA0 | exact fD0 | exact fD1) rfl ?_; refine QQ rfl rfl rfl rfl rfl (by with_reducible first | exact lInt | exact QU | exact QW | exact QY | exact lIDs) rfl ?_; refine Qk igeq rfl rfl rfl rfl ?_; refine QZ rfl rfl rfl rfl ?_; refine Qy rfl rfl rfl ?_; refine Qv (hK _ _ (Qq (Q0 ?_))); clear hK K)
          refine Q1 [_] rfl (QJ rfl QX) (by rw [e]; rfl) rfl
        · have e : validC ⟨1, a, b, lo, hi, t, s⟩ = false := decide_eq_false (by unfold ValidP; (try dsimp only at g1); (try dsimp only at g2); (try dsimp only at h1); (try dsimp only at h2); (try dsimp only at h3); dsimp only; omega)
          (refine Qj rfl rfl rfl ?_; refine Qj rfl rfl rfl ?_; refine Qj rfl rfl rfl ?_; refine Q2 rfl rfl rfl rfl ?_; refine Qy rfl rfl rfl ?_; refine Qv (hK _ _ (Qq (Q0 ?_))); clear hK K)
          refine Q1 [_] rfl (QJ rfl QX) (by rw [e]; rfl) rfl
      · have e : validC ⟨1, a, b, lo, hi, t, s⟩ = false := decide_eq_false (by unfold ValidP; (try dsimp only at g1); (try dsimp only at g2); (try dsimp only at h1); (try dsimp only at h2); (try dsimp only at h3); dsimp only; omega)
        (refine Qj rfl rfl rfl ?_; refine Qj rfl rfl rfl ?_; refine Qj rfl rfl rfl ?_; refine Qj rfl rfl rfl ?_; refine Qj rfl rfl rfl ?_; refine Qj rfl rfl rfl ?_; refine Qj rfl rfl rfl ?_; refine Qj rfl rfl rfl ?_; refine Q2 rfl rfl rfl rfl ?_; refine Qz rfl rfl rfl ?_; refine Qj rfl rfl rfl ?_; refine Qj rfl rfl rfl ?_; refine Qj rfl rfl rfl ?_; refine Q2 rfl rfl rfl rfl ?_; refine Qy rfl rfl rfl ?_; refine Qv (hK _ _ (Qq (Q0 ?_))); clear hK K)
        refine Q1 [_] rfl (QJ rfl QX) (by rw [e]; rfl) rfl
    · have e : validC ⟨1, a, b, lo, hi, t, s⟩ = false := decide_eq_false (by unfold ValidP; (try dsimp only at g1); (try dsimp only at g2); (try dsimp only at h1); (try dsimp only at h2); (try dsimp only at h3); dsimp only; omega)
      (refine Qj rfl rfl rfl ?_; refine Qj rfl rfl rfl ?_; refine Qj rfl rfl rfl ?_; refine Qj rfl rfl rfl ?_; refine Qj rfl rfl rfl ?_; refine Qj rfl rfl rfl ?_; refine Qj rfl rfl rfl ?_; refine Qj rfl rfl rfl ?_; refine Q2 rfl rfl rfl rfl ?_; refine Qz rfl rfl rfl ?_; refine Qj rfl rfl rfl ?_; refine Qj rfl rfl rfl ?_; refine Qj rfl rfl rfl ?_; refine Qj rfl rfl rfl ?_; refine Qj rfl rfl rfl ?_; refine Qj rfl rfl rfl ?_; refine Qj rfl rfl rfl ?_; refine Qj rfl rfl rfl ?_; refine Q2 rfl rfl rfl rfl ?_; refine Qz rfl rfl rfl ?_; refine Qj rfl rfl rfl ?_; refine Qj rfl rfl rfl ?_; refine Qj rfl rfl rfl ?_; refine Q2 rfl rfl rfl rfl ?_; refine Qy rfl rfl rfl ?_; refine Qv (hK _ _ (Qq (Q0 ?_))); clear hK K)
      refine Q1 [_] rfl (QJ rfl QX) (by rw [e]; rfl) rfl
  · (refine Qw (Qx fun K hK => ?_); refine Qf 0 rfl rfl rfl rfl rfl rfl rfl ?_; refine Qy rfl rfl rfl ?_; refine Qv (hK _ _ (Qq (Qw (Qw ?_)))); clear hK K; refine Qx (fun K hK => ?_); refine Qu rfl rfl rfl (by with_reducible first | exact fK0 | exact fK1 | exact fK2 | exact fK3 | exact fK4 | exact fK5 | exact fK6 | exact fE0 | exact fE1 | exact fE2 | exact fE3 | exact fA0 | exact fD0 | exact fD1) rfl ?_; refine QQ rfl rfl rfl rfl rfl (by with_reducible first | exact lInt | exact QU | exact QW | exact QY | exact lIDs) rfl ?_; refine Qv (hK _ _ (Qq (Q4 (Qw (Q4 (Qw (Q4 (Qw (Q4 (Qw (Q4 (Qw (Qw (Qw (Qw ?_))))))))))))))); clear hK K; refine Qx (fun K hK => ?_); refine Qk ieql rfl rfl rfl rfl ?_; refine Qy rfl rfl rfl ?_; refine Qv (hK _ _ (Qq (Qc rfl (Q5 (Qq (Qc rfl (Qh (Qq (Qw ?_))))))))); clear hK K; refine Qx (fun K hK => ?_); refine Qu rfl rfl rfl (by with_reducible first | exact fK0 | exact fK1 | exact fK2 | exact fK3 | exact fK4 | exact fK5 | exact fK6 | exact fE0 | exact fE1 | exact fE2 | exact fE3 | exact fA0 | exact fD0 | exact fD1) rfl ?_; refine QQ rfl rfl rfl rfl rfl (by with_reducible first | exact lInt | exact QU | exact QW | exact QY | exact lIDs) rfl ?_; refine Qu rfl rfl rfl (by with_reducible first | exact fK0 | exact fK1 | exact fK2 | exact fK3 | exact fK4 | exact fK5 | exact fK6 | exact fE0 | exact fE1 | exact fE2 | exact fE3 | exact fA0 | exact fD0 | exact fD1) rfl ?_; refine QQ rfl rfl rfl rfl rfl (by with_reducible first | exact lInt | exact QU | exact QW | exact QY | exact lIDs) rfl ?_; refine Qk igeq rfl rfl rfl rfl ?_; refine Qv (hK _ _ (Qq ?_)); clear hK K)
    refine Q7 rfl (fun g1 => ?_) (fun g1 => ?_)
    · have e : validC ⟨2, a, b, lo, hi, t, s⟩ = false := decide_eq_false (by unfold ValidP; (try dsimp only at g1); (try dsimp only at g2); (try dsimp only at h1); (try dsimp only at h2); (try dsimp only at h3); dsimp only; omega)
      (refine Qw (Qx fun K hK => ?_); refine Qy rfl rfl rfl ?_; refine Qv (hK _ _ (Qq (Q0 (Q6 (QV (Q6 (QV (Q6 (QV (Q6 (QV ?_))))))))))); clear hK K)
      refine Q1 [_] rfl (QJ rfl QX) (by rw [e]; rfl) rfl
    (refine Q5 (Qq (Qw (Qw (Qx fun K hK => ?_)))); refine Qu rfl rfl rfl (by with_reducible first | exact fK0 | exact fK1 | exact fK2 | exact fK3 | exact fK4 | exact fK5 | exact fK6 | exact fE0 | exact fE1 | exact fE2 | exact fE3 | exact fA0 | exact fD0 | exact fD1) rfl ?_; refine QQ rfl rfl rfl rfl rfl (by with_reducible first | exact lInt | exact QU | exact QW | exact QY | exact lIDs) rfl ?_; refine Qk ieql rfl rfl rfl rfl ?_; refine Qv (hK _ _ (Qq ?_)); clear hK K)
    refine Q7 rfl (fun g2 => ?_) (fun g2 => ?_)
    · have e : validC ⟨2, a, b, lo, hi, t, s⟩ = false := decide_eq_false (by unfold ValidP; (try dsimp only at g1); (try dsimp only at g2); (try dsimp only at h1); (try dsimp only at h2); (try dsimp only at h3); dsimp only; omega)
      (refine Qw (Qx fun K hK => ?_); refine Qy rfl rfl rfl ?_; refine Qv (hK _ _ (Qq (Q0 (QV (Q6 (QV (Q6 (QV (Q6 (QV ?_)))))))))); clear hK K)
      refine Q1 [_] rfl (QJ rfl QX) (by rw [e]; rfl) rfl
    (refine Q5 (Qq (Qh (Qq (Qw (Qx fun K hK => ?_))))); refine Qu rfl rfl rfl (by with_reducible first | exact fK0 | exact fK1 | exact fK2 | exact fK3 | exact fK4 | exact fK5 | exact fK6 | exact fE0 | exact fE1 | exact fE2 | exact fE3 | exact fA0 | exact fD0 | exact fD1) rfl ?_; refine QQ rfl rfl rfl rfl rfl (by with_reducible first | exact lInt | exact QU | exact QW | exact QY | exact lIDs) rfl ?_; refine Qk ineq rfl rfl rfl rfl ?_; refine Qz rfl rfl rfl ?_)
    refine Q8 25 rfl (fun h1 => ?_) (fun h1 => ?_)
    · (refine Qu rfl rfl rfl (by with_reducible first | exact fK0 | exact fK1 | exact fK2 | exact fK3 | exact fK4 | exact fK5 | exact fK6 | exact fE0 | exact fE1 | exact fE2 | exact fE3 | exact fA0 | exact fD0 | exact fD1) rfl ?_; refine QQ rfl rfl rfl rfl rfl (by with_reducible first | exact lInt | exact QU | exact QW | exact QY | exact lIDs) rfl ?_; refine Qu rfl rfl rfl (by with_reducible first | exact fK0 | exact fK1 | exact fK2 | exact fK3 | exact fK4 | exact fK5 | exact fK6 | exact fE0 | exact fE1 | exact fE2 | exact fE3 | exact fA0 | exact fD0 | exact fD1) rfl ?_; refine QQ rfl rfl rfl rfl rfl (by with_reducible first | exact lInt | exact QU | exact QW | exact QY | exact lIDs) rfl ?_; refine Qu rfl rfl rfl (by with_reducible first | exact fK0 | exact fK1 | exact fK2 | exact fK3 | exact fK4 | exact fK5 | exact fK6 | exact fE0 | exact fE1 | exact fE2 | exact fE3 | exact fA0 | exact fD0 | exact fD1) rfl ?_; refine QQ rfl rfl rfl rfl rfl (by with_reducible first | exact lInt | exact QU | exact QW | exact QY | exact lIDs) rfl ?_; refine Z5 rfl rfl rfl rfl rfl ?_; refine Qk igeq rfl rfl rfl rfl ?_; refine QZ rfl rfl rfl rfl ?_; refine Qz rfl rfl rfl ?_)
      refine Q8 35 rfl (fun h2 => ?_) (fun h2 => ?_)
      · (refine Qu rfl rfl rfl (by with_reducible first | exact fK0 | exact fK1 | exact fK2 | exact fK3 | exact fK4 | exact fK5 | exact fK6 | exact fE0 | exact fE1 | exact fE2 | exact fE3 | exact fA0 | exact fD0 | exact fD1) rfl ?_; refine QQ rfl rfl rfl rfl rfl (by with_reducible first | exact lInt | exact QU | exact QW | exact QY | exact lIDs) rfl ?_; refine Qu rfl rfl rfl (by with_reducible first | exact fK0 | exact fK1 | exact fK2 | exact fK3 | exact fK4 | exact fK5 | exact fK6 | exact fE0 | exact fE1 | exact fE2 | exact fE3 | exact fA0 | exact fD0 | exact fD1) rfl ?_; refine QQ rfl rfl rfl rfl rfl (by with_reducible first | exact lInt | exact QU | exact QW | exact QY | exact lIDs) rfl ?_; refine Qu rfl rfl rfl (by with_reducible first | exact fK0 | exact fK1 | exact fK2 | exact fK3 | exact fK4 | exact fK5 | exact fK6 | exact fE0 | exact fE1 | exact fE2 | exact fE3 | exact fA0 | exact fD0 | exact fD1) rfl ?_; refine QQ rfl rfl rfl rfl rfl (by with_reducible first | exact lInt | exact QU | exact QW | exact QY | exact lIDs) rfl ?_; refine Z6 rfl rfl rfl rfl rfl ?_; refine Qk ileq rfl rfl rfl rfl ?_; refine QZ rfl rfl rfl rfl ?_; refine Qz rfl rfl rfl ?_)
        refine Q8 45 rfl (fun h3 => ?_) (fun h3 => ?_)
        · have e : validC ⟨2, a, b, lo, hi, t, s⟩ = decide (0 ≤ s) := decide_eq_decide.2 (by unfold ValidP; (try dsimp only at g1); (try dsimp only at g2); (try dsimp only at h1); (try dsimp only at h2); (try dsimp only at h3); dsimp only; omega)
          (refine Qu rfl rfl rfl (by with_reducible first | exact fK0 | exact fK1 | exact fK2 | exact fK3 | exact fK4 | exact fK5 | exact fK6 | exact fE0 | exact fE1 | exact fE2 | exact fE3 | exact fA0 | exact fD0 | exact fD1) rfl ?_; refine QQ rfl rfl rfl rfl rfl (by with_reducible first | exact lInt | exact QU | exact QW | exact QY | exact lIDs) rfl ?_; refine Qk igeq rfl rfl rfl rfl ?_; refine QZ rfl rfl rfl rfl ?_; refine Qy rfl rfl rfl ?_; refine Qv (hK _ _ (Qq (Q0 ?_))); clear hK K)
          refine Q1 [_] rfl (QJ rfl QX) (by rw [e]; rfl) rfl
        · have e : validC ⟨2, a, b, lo, hi, t, s⟩ = false := decide_eq_false (by unfold ValidP; (try dsimp only at g1); (try dsimp only at g2); (try dsimp only at h1); (try dsimp only at h2); (try dsimp only at h3); dsimp only; omega)
          (refine Qj rfl rfl rfl ?_; refine Qj rfl rfl rfl ?_; refine Qj rfl rfl rfl ?_; refine Q2 rfl rfl rfl rfl ?_; refine Qy rfl rfl rfl ?_; refine Qv (hK _ _ (Qq (Q0 ?_))); clear hK K)
          refine Q1 [_] rfl (QJ rfl QX) (by rw [e]; rfl) rfl
      · have e : validC ⟨2, a, b, lo, hi, t, s⟩ = false := decide_eq_false (by unfold ValidP; (try dsimp only at g1); (try dsimp only at g2); (try dsimp only at h1); (try dsimp only at h2); (try dsimp only at h3); dsimp only; omega)
        (refine Qj rfl rfl rfl ?_; refine Qj rfl rfl rfl ?_; refine Qj rfl rfl rfl ?_; refine Qj rfl rfl rfl ?_; refine Qj rfl rfl rfl ?_; refine Qj rfl rfl rfl ?_; refine Qj rfl rfl rfl ?_; refine Qj rfl rfl rfl ?_; refine Q2 rfl rfl rfl rfl ?_; refine Qz rfl rfl rfl ?_; refine Qj rfl rfl rfl ?_; refine Qj rfl rfl rfl ?_; refine Qj rfl rfl rfl ?_; refine Q2 rfl rfl rfl rfl ?_; refine Qy rfl rfl rfl ?_; refine Qv (hK _ _ (Qq (Q0 ?_))); clear hK K)
        refine Q1 [_] rfl (QJ rfl QX) (by rw [e]; rfl) rfl
    · have e : validC ⟨2, a, b, lo, hi, t, s⟩ = false := decide_eq_false (by unfold ValidP; (try dsimp only at g1); (try dsimp only at g2); (try dsimp only at h1); (try dsimp only at h2); (try dsimp only at h3); dsimp only; omega)
      (refine Qj rfl rfl rfl ?_; refine Qj rfl rfl rfl ?_; refine Qj rfl rfl rfl ?_; refine Qj rfl rfl rfl ?_; refine Qj rfl rfl rfl ?_; refine Qj rfl rfl rfl ?_; refine Qj rfl rfl rfl ?_; refine Qj rfl rfl rfl ?_; refine Q2 rfl rfl rfl rfl ?_; refine Qz rfl rfl rfl ?_; refine Qj rfl rfl rfl ?_; refine Qj rfl rfl rfl ?_; refine Qj rfl rfl rfl ?_; refine Qj rfl rfl rfl ?_; refine Qj rfl rfl rfl ?_; refine Qj rfl rfl rfl ?_; refine Qj rfl rfl rfl ?_; refine Qj rfl rfl rfl ?_; refine Q2 rfl rfl rfl rfl ?_; refine Qz rfl rfl rfl ?_; refine Qj rfl rfl rfl ?_; refine Qj rfl rfl rfl ?_; refine Qj rfl rfl rfl ?_; refine Q2 rfl rfl rfl rfl ?_; refine Qy rfl rfl rfl ?_; refine Qv (hK _ _ (Qq (Q0 ?_))); clear hK K)
      refine Q1 [_] rfl (QJ rfl QX) (by rw [e]; rfl) rfl
  · (refine Qw (Qx fun K hK => ?_); refine Qf 0 rfl rfl rfl rfl rfl rfl rfl ?_; refine Qy rfl rfl rfl ?_; refine Qv (hK _ _ (Qq (Qw (Qw ?_)))); clear hK K; refine Qx (fun K hK => ?_); refine Qu rfl rfl rfl (by with_reducible first | exact fK0 | exact fK1 | exact fK2 | exact fK3 | exact fK4 | exact fK5 | exact fK6 | exact fE0 | exact fE1 | exact fE2 | exact fE3 | exact fA0 | exact fD0 | exact fD1) rfl ?_; refine QQ rfl rfl rfl rfl rfl (by with_reducible first | exact lInt | exact QU | exact QW | exact QY | exact lIDs) rfl ?_; refine Qv (hK _ _ (Qq (Q4 (Qw (Q4 (Qw (Q4 (Qw (Q4 (Qw (Q4 (Qw (Qw (Qw (Qw ?_))))))))))))))); clear hK K; refine Qx (fun K hK => ?_); refine Qk ieql rfl rfl rfl rfl ?_; refine Qy rfl rfl rfl ?_; refine Qv (hK _ _ (Qq (Qe rfl ?_))); clear hK K; refine Qx (fun K hK => ?_); refine Qk ieql rfl rfl rfl rfl ?_; refine Qy rfl rfl rfl ?_; refine Qv (hK _ _ (Qq (Qc rfl (Qh (Qq (Qw ?_)))))); clear hK K; refine Qx (fun K hK => ?_); refine Qu rfl rfl rfl (by with_reducible first | exact fK0 | exact fK1 | exact fK2 | exact fK3 | exact fK4 | exact fK5 | exact fK6 | exact fE0 | exact fE1 | exact fE2 | exact fE3 | exact fA0 | exact fD0 | exact fD1) rfl ?_; refine QQ rfl rfl rfl rfl rfl (by with_reducible first | exact lInt | exact QU | exact QW | exact QY | exact lIDs) rfl ?_; refine Qu rfl rfl rfl (by with_reducible first | exact fK0 | exact fK1 | exact fK2 | exact fK3 | exact fK4 | exact fK5 | exact fK6 | exact fE0 | exact fE1 | exact fE2 | exact fE3 | exact fA0 | exact fD0 | exact fD1) rfl ?_; refine QQ rfl rfl rfl rfl rfl (by with_reducible first | exact lInt | exact QU | exact QW | exact QY | exact lIDs) rfl ?_; refine Qk igeq rfl rfl rfl rfl ?_; refine Qv (hK _ _ (Qq ?_)); clear hK K)
    refine Q7 rfl (fun g1 => ?_) (fun g1 => ?_)
    · have e : validC ⟨3, a, b, lo, hi, t, s⟩ = false := decide_eq_false (by unfold ValidP; (try dsimp only at g1); (try dsimp only at g2); (try dsimp only at h1); (try dsimp only at h2); (try dsimp only at h3); dsimp only; omega)
      (refine Qw (Qx fun K hK => ?_); refine Qy rfl rfl rfl ?_; refine Qv (hK _ _ (Qq (Q0 (Q6 (QV (Q6 (QV (Q6 (QV (Q6 (QV ?_))))))))))); clear hK K)
      refine Q1 [_] rfl (QJ rfl QX) (by rw [e]; rfl) rfl
    (refine Q5 (Qq (Qw (Qw (Qx fun K hK => ?_)))); refine Qu rfl rfl rfl (by with_reducible first | exact fK0 | exact fK1 | exact fK2 | exact fK3 | exact fK4 | exact fK5 | exact fK6 | exact fE0 | exact fE1 | exact fE2 | exact fE3 | exact fA0 | exact fD0 | exact fD1) rfl ?_; refine QQ rfl rfl rfl rfl rfl (by with_reducible first | exact lInt | exact QU | exact QW | exact QY | exact lIDs) rfl ?_; refine Qk ieql rfl rfl rfl rfl ?_; refine Qv (hK _ _ (Qq ?_)); clear hK K)
    refine Q7 rfl (fun g2 => ?_) (fun g2 => ?_)
    · have e : validC ⟨3, a, b, lo, hi, t, s⟩ = false := decide_eq_false (by unfold ValidP; (try dsimp only at g1); (try dsimp only at g2); (try dsimp only at h1); (try dsimp only at h2); (try dsimp only at h3); dsimp only; omega)
      (refine Qw (Qx fun K hK => ?_); refine Qy rfl rfl rfl ?_; refine Qv (hK _ _ (Qq (Q0 (QV (Q6 (QV (Q6 (QV (Q6 (QV ?_)))))))))); clear hK K)
      refine Q1 [_] rfl (QJ rfl QX) (by rw [e]; rfl) rfl
    (refine Q5 (Qq (Qh (Qq (Qw (Qx fun K hK => ?_))))); refine Qu rfl rfl rfl (by with_reducible first | exact fK0 | exact fK1 | exact fK2 | exact fK3 | exact fK4 | exact fK5 | exact fK6 | exact fE0 | exact fE1 | exact fE2 | exact fE3 | exact fA0 | exact fD0 | exact fD1) rfl ?_; refine QQ rfl rfl rfl rfl rfl (by with_reducible first | exact lInt | exact QU | exact QW | exact QY | exact lIDs) rfl ?_; refine Qk ineq rfl rfl rfl rfl ?_; refine Qz rfl rfl rfl ?_)
    refine Q8 25 rfl (fun h1 => ?_) (fun h1 => ?_)
    · (refine Qu rfl rfl rfl (by with_reducible first | exact fK0 | exact fK1 | exact fK2 | exact fK3 | exact fK4 | exact fK5 | exact fK6 | exact fE0 | exact fE1 | exact fE2 | exact fE3 | exact fA0 | exact fD0 | exact fD1) rfl ?_; refine QQ rfl rfl rfl rfl rfl (by with_reducible first | exact lInt | exact QU | exact QW | exact QY | exact lIDs) rfl ?_; refine Qu rfl rfl rfl (by with_reducible first | exact fK0 | exact fK1 | exact fK2 | exact fK3 | exact fK4 | exact fK5 | exact fK6 | exact fE0 | exact fE1 | exact fE2 | exact fE3 | exact fA0 | exact fD0 | exact fD1) rfl ?_; refine QQ rfl rfl rfl rfl rfl (by with_reducible first | exact lInt | exact QU | exact QW | exact QY | exact lIDs) rfl ?_; refine Qu rfl rfl rfl (by with_reducible first | exact fK0 | exact fK1 | exact fK2 | exact fK3 | exact fK4 | exact fK5 | exact fK6 | exact fE0 | exact fE1 | exact fE2 | exact fE3 | exact fA0 | exact fD0 | exact fD1) rfl ?_; refine QQ rfl rfl rfl rfl rfl (by with_reducible first | exact lInt | exact QU | exact QW | exact QY | exact lIDs) rfl ?_; refine Z5 rfl rfl rfl rfl rfl ?_; refine Qk igeq rfl rfl rfl rfl ?_; refine QZ rfl rfl rfl rfl ?_; refine Qz rfl rfl rfl ?_)
      refine Q8 35 rfl (fun h2 => ?_) (fun h2 => ?_)
      · (refine Qu rfl rfl rfl (by with_reducible first | exact fK0 | exact fK1 | exact fK2 | exact fK3 | exact fK4 | exact fK5 | exact fK6 | exact fE0 | exact fE1 | exact fE2 | exact fE3 | exact fA0 | exact fD0 | exact fD1) rfl ?_; refine QQ rfl rfl rfl rfl rfl (by with_reducible first | exact lInt | exact QU | exact QW | exact QY | exact lIDs) rfl ?_; refine Qu rfl rfl rfl (by with_reducible first | exact fK0 | exact fK1 | exact fK2 | exact fK3 | exact fK4 | exact fK5 | exact fK6 | exact fE0 | exact fE1 | exact fE2 | exact fE3 | exact fA0 | exact fD0 | exact fD1) rfl ?_; refine QQ rfl rfl rfl rfl rfl (by with_reducible first | exact lInt | exact QU | exact QW | exact QY | exact lIDs) rfl ?_; refine Qu rfl rfl rfl (by with_reducible first | exact fK0 | exact fK1 | exact fK2 | exact fK3 | exact fK4 | exact fK5 | exact fK6 | exact fE0 | exact fE1 | exact fE2 | exact fE3 | exact fA0 | exact fD0 | exact fD1) rfl ?_; refine QQ rfl rfl rfl rfl rfl (by with_reducible first | exact lInt | exact QU | exact QW | exact QY | exact lIDs) rfl ?_; refine Z6 rfl rfl rfl rfl rfl ?_; refine Qk ileq rfl rfl rfl rfl ?_; refine QZ rfl rfl rfl rfl ?_; refine Qz rfl rfl rfl ?_)
        refine Q8 45 rfl (fun h3 => ?_) (fun h3 => ?_)
        · have e : validC ⟨3, a, b, lo, hi, t, s⟩ = decide (0 ≤ s) := decide_eq_decide.2 (by unfold ValidP; (try dsimp only at g1); (try dsimp only at g2); (try dsimp only at h1); (try dsimp only at h2); (try dsimp only at h3); dsimp only; omega)
          (refine Qu rfl rfl rfl (by with_reducible first | exact fK0 | exact fK1 | exact fK2 | exact fK3 | exact fK4 | exact fK5 | exact fK6 | exact fE0 | exact fE1 | exact fE2 | exact fE3 | exact fA0 | exact fD0 | exact fD1) rfl ?_; refine QQ rfl rfl rfl rfl rfl (by with_reducible first | exact lInt | exact QU | exact QW | exact QY | exact lIDs) rfl ?_; refine Qk igeq rfl rfl rfl rfl ?_; refine QZ rfl rfl rfl rfl ?_; refine Qy rfl rfl rfl ?_; refine Qv (hK _ _ (Qq (Q0 ?_))); clear hK K)
          refine Q1 [_] rfl (QJ rfl QX) (by rw [e]; rfl) rfl
        · have e : validC ⟨3, a, b, lo, hi, t, s⟩ = false := decide_eq_false (by unfold ValidP; (try dsimp only at g1); (try dsimp only at g2); (try dsimp only at h1); (try dsimp only at h2); (try dsimp only at h3); dsimp only; omega)
          (refine Qj rfl rfl rfl ?_; refine Qj rfl rfl rfl ?_; refine Qj rfl rfl rfl ?_; refine Q2 rfl rfl rfl rfl ?_; refine Qy rfl rfl rfl ?_; refine Qv (hK _ _ (Qq (Q0 ?_))); clear hK K)
          refine Q1 [_] rfl (QJ rfl QX) (by rw [e]; rfl) rfl
      · have e : validC ⟨3, a, b, lo, hi, t, s⟩ = false := decide_eq_false (by unfold ValidP; (try dsimp only at g1); (try dsimp only at g2); (try dsimp only at h1); (try dsimp only at h2); (try dsimp only at h3); dsimp only; omega)
        (refine Qj rfl rfl rfl ?_; refine Qj rfl rfl rfl ?_; refine Qj rfl rfl rfl ?_; refine Qj rfl rfl rfl ?_; refine Qj rfl rfl rfl ?_; refine Qj rfl rfl rfl ?_; refine Qj rfl rfl rfl ?_; refine Qj rfl rfl rfl ?_; refine Q2 rfl rfl rfl rfl ?_; refine Qz rfl rfl rfl ?_; refine Qj rfl rfl rfl ?_; refine Qj rfl rfl rfl ?_; refine Qj rfl rfl rfl ?_; refine Q2 rfl rfl rfl rfl ?_; refine Qy rfl rfl rfl ?_; refine Qv (hK _ _ (Qq (Q0 ?_))); clear hK K)
        refine Q1 [_] rfl (QJ rfl QX) (by rw [e]; rfl) rfl
    · have e : validC ⟨3, a, b, lo, hi, t, s⟩ = false := decide_eq_false (by unfold ValidP; (try dsimp only at g1); (try dsimp only at g2); (try dsimp only at h1); (try dsimp only at h2); (try dsimp only at h3); dsimp only; omega)
      (refine Qj rfl rfl rfl ?_; refine Qj rfl rfl rfl ?_; refine Qj rfl rfl rfl ?_; refine Qj rfl rfl rfl ?_; refine Qj rfl rfl rfl ?_; refine Qj rfl rfl rfl ?_; refine Qj rfl rfl rfl ?_; refine Qj rfl rfl rfl ?_; refine Q2 rfl rfl rfl rfl ?_; refine Qz rfl rfl rfl ?_; refine Qj rfl rfl rfl ?_; refine Qj rfl rfl rfl ?_; refine Qj rfl rfl rfl ?_; refine Qj rfl rfl rfl ?_; refine Qj rfl rfl rfl ?_; refine Qj rfl rfl rfl ?_; refine Qj rfl rfl rfl ?_; refine Qj rfl rfl rfl ?_; refine Q2 rfl rfl rfl rfl ?_; refine Qz rfl rfl rfl ?_; refine Qj rfl rfl rfl ?_; refine Qj rfl rfl rfl ?_; refine Qj rfl rfl rfl ?_; refine Q2 rfl rfl rfl rfl ?_; refine Qy rfl rfl rfl ?_; refine Qv (hK _ _ (Qq (Q0 ?_))); clear hK K)
      refine Q1 [_] rfl (QJ rfl QX) (by rw [e]; rfl) rfl
  · (refine Qw (Qx fun K hK => ?_); refine Qf 0 rfl rfl rfl rfl rfl rfl rfl ?_; refine Qy rfl rfl rfl ?_; refine Qv (hK _ _ (Qq (Qw (Qw ?_)))); clear hK K; refine Qx (fun K hK => ?_); refine Qu rfl rfl rfl (by with_reducible first | exact fK0 | exact fK1 | exact fK2 | exact fK3 | exact fK4 | exact fK5 | exact fK6 | exact fE0 | exact fE1 | exact fE2 | exact fE3 | exact fA0 | exact fD0 | exact fD1) rfl ?_; refine QQ rfl rfl rfl rfl rfl (by with_reducible first | exact lInt | exact QU | exact QW | exact QY | exact lIDs) rfl ?_; refine Qv (hK _ _ (Qq (Q4 (Qw (Q4 (Qw (Q4 (Qw (Q4 (Qw (Q4 (Qw (Qw (Qw (Qw ?_))))))))))))))); clear hK K; refine Qx (fun K hK => ?_); refine Qk ieql rfl rfl rfl rfl ?_; refine Qy rfl rfl rfl ?_; refine Qv (hK _ _ (Qq (Qe rfl ?_))); clear hK K; refine Qx (fun K hK => ?_); refine Qk ieql rfl rfl rfl rfl ?_; refine Qy rfl rfl rfl ?_; refine Qv (hK _ _ (Qq (Qe rfl (Q5 (Qq (Qw (Qw ?_))))))); clear hK K; refine Qx (fun K hK => ?_); refine Qk ieql rfl rfl rfl rfl ?_; refine Qy rfl rfl rfl ?_; refine Qv (hK _ _ (Qq (Qe rfl (Q5 (Qq (Qw (Qw ?_))))))); clear hK K; refine Qx (fun K hK => ?_); refine Qk ieql rfl rfl rfl rfl ?_; refine Qy rfl rfl rfl ?_; refine Qv (hK _ _ (Qq (Qc rfl (Q5 (Qq (Qc rfl (Qh (Qq (Qh (Qq (Qw ?_))))))))))); clear hK K; refine Qx (fun K hK => ?_); refine Qu rfl rfl rfl (by with_reducible first | exact fK0 | exact fK1 | exact fK2 | exact fK3 | exact fK4 | exact fK5 | exact fK6 | exact fE0 | exact fE1 | exact fE2 | exact fE3 | exact fA0 | exact fD0 | exact fD1) rfl ?_; refine QQ rfl rfl rfl rfl rfl (by with_reducible first | exact lInt | exact QU | exact QW | exact QY | exact lIDs) rfl ?_; refine Qk ineq rfl rfl rfl rfl ?_; refine Qz rfl rfl rfl ?_)
    refine Q8 25 rfl (fun h1 => ?_) (fun h1 => ?_)
    · (refine Qu rfl rfl rfl (by with_reducible first | exact fK0 | exact fK1 | exact fK2 | exact fK3 | exact fK4 | exact fK5 | exact fK6 | exact fE0 | exact fE1 | exact fE2 | exact fE3 | exact fA0 | exact fD0 | exact fD1) rfl ?_; refine QQ rfl rfl rfl rfl rfl (by with_reducible first | exact lInt | exact QU | exact QW | exact QY | exact lIDs) rfl ?_; refine Qu rfl rfl rfl (by with_reducible first | exact fK0 | exact fK1 | exact fK2 | exact fK3 | exact fK4 | exact fK5 | exact fK6 | exact fE0 | exact fE1 | exact fE2 | exact fE3 | exact fA0 | exact fD0 | exact fD1) rfl ?_; refine QQ rfl rfl rfl rfl rfl (by with_reducible first | exact lInt | exact QU | exact QW | exact QY | exact lIDs) rfl ?_; refine Qu rfl rfl rfl (by with_reducible first | exact fK0 | exact fK1 | exact fK2 | exact fK3 | exact fK4 | exact fK5 | exact fK6 | exact fE0 | exact fE1 | exact fE2 | exact fE3 | exact fA0 | exact fD0 | exact fD1) rfl ?_; refine QQ rfl rfl rfl rfl rfl (by with_reducible first | exact lInt | exact QU | exact QW | exact QY | exact lIDs) rfl ?_; refine Z5 rfl rfl rfl rfl rfl ?_; refine Qk igeq rfl rfl rfl rfl ?_; refine QZ rfl rfl rfl rfl ?_; refine Qz rfl rfl rfl ?_)
      refine Q8 35 rfl (fun h2 => ?_) (fun h2 => ?_)
      · (refine Qu rfl rfl rfl (by with_reducible first | exact fK0 | exact fK1 | exact fK2 | exact fK3 | exact fK4 | exact fK5 | exact fK6 | exact fE0 | exact fE1 | exact fE2 | exact fE3 | exact fA0 | exact fD0 | exact fD1) rfl ?_; refine QQ rfl rfl rfl rfl rfl (by with_reducible first | exact lInt | exact QU | exact QW | exact QY | exact lIDs) rfl ?_; refine Qu rfl rfl rfl (by with_reducible first | exact fK0 | exact fK1 | exact fK2 | exact fK3 | exact fK4 | exact fK5 | exact fK6 | exact fE0 | exact fE1 | exact fE2 | exact fE3 | exact fA0 | exact fD0 | exact fD1) rfl ?_; refine QQ rfl rfl rfl rfl rfl (by with_reducible first | exact lInt | exact QU | exact QW | exact QY | exact lIDs) rfl ?_; refine Qu rfl rfl rfl (by with_reducible first | exact fK0 | exact fK1 | exact fK2 | exact fK3 | exact fK4 | exact fK5 | exact fK6 | exact fE0 | exact fE1 | exact fE2 | exact fE3 | exact fA0 | exact fD0 | exact fD1) rfl ?_; refine QQ rfl rfl rfl rfl rfl (by with_reducible first | exact lInt | exact QU | exact QW | exact QY | exact lIDs) rfl ?_; refine Z6 rfl rfl rfl rfl rfl ?_; refine Qk ileq rfl rfl rfl rfl ?_; refine QZ rfl rfl rfl rfl ?_; refine Qz rfl rfl rfl ?_)
        refine Q8 45 rfl (fun h3 => ?_) (fun h3 => ?_)
        · have e : validC ⟨4, a, b, lo, hi, t, s⟩ = decide (0 ≤ s) := decide_eq_decide.2 (by unfold ValidP; (try dsimp only at g1); (try dsimp only at g2); (try dsimp only at h1); (try dsimp only at h2); (try dsimp only at h3); dsimp only; omega)
          (refine Qu rfl rfl rfl (by with_reducible first | exact fK0 | exact fK1 | exact fK2 | exact fK3 | exact fK4 | exact fK5 | exact fK6 | exact fE0 | exact fE1 | exact fE2 | exact fE3 | exact fA0 | exact fD0 | exact fD1) rfl ?_; refine QQ rfl rfl rfl rfl rfl (by with_reducible first | exact lInt | exact QU | exact QW | exact QY | exact lIDs) rfl ?_; refine Qk igeq rfl rfl rfl rfl ?_; refine QZ rfl rfl rfl rfl ?_; refine Qy rfl rfl rfl ?_; refine Qv (hK _ _ (Qq (Q0 ?_))); clear hK K)
          refine Q1 [_] rfl (QJ rfl QX) (by rw [e]; rfl) rfl
        · have e : validC ⟨4, a, b, lo, hi, t, s⟩ = false := decide_eq_false (by unfold ValidP; (try dsimp only at g1); (try dsimp only at g2); (try dsimp only at h1); (try dsimp only at h2); (try dsimp only at h3); dsimp only; omega)
          (refine Qj rfl rfl rfl ?_; refine Qj rfl rfl rfl ?_; refine Qj rfl rfl rfl ?_; refine Q2 rfl rfl rfl rfl ?_; refine Qy rfl rfl rfl ?_; refine Qv (hK _ _ (Qq (Q0 ?_))); clear hK K)
          refine Q1 [_] rfl (QJ rfl QX) (by rw [e]; rfl) rfl
      · have e : validC ⟨4, a, b, lo, hi, t, s⟩ = false := decide_eq_false (by unfold ValidP; (try dsimp only at g1); (try dsimp only at g2); (try dsimp only at h1); (try dsimp only at h2); (try dsimp only at h3); dsimp only; omega)
        (refine Qj rfl rfl rfl ?_; refine Qj rfl rfl rfl ?_; refine Qj rfl rfl rfl ?_; refine Qj rfl rfl rfl ?_; refine Qj rfl rfl rfl ?_; refine Qj rfl rfl rfl ?_; refine Qj rfl rfl rfl ?_; refine Qj rfl rfl rfl ?_; refine Q2 rfl rfl rfl rfl ?_; refine Qz rfl rfl rfl ?_; refine Qj rfl rfl rfl ?_; refine Qj rfl rfl rfl ?_; refine Qj rfl rfl rfl ?_; refine Q2 rfl rfl rfl rfl ?_; refine Qy rfl rfl rfl ?_; refine Qv (hK _ _ (Qq (Q0 ?_))); clear hK K)
        refine Q1 [_] rfl (QJ rfl QX) (by rw [e]; rfl) rfl
    · have e : validC ⟨4, a, b, lo, hi, t, s⟩ = false := decide_eq_false (by unfold ValidP; (try dsimp only at g1); (try dsimp only at g2); (try dsimp only at h1); (try dsimp only at h2); (try dsimp only at h3); dsimp only; omega)
      (refine Qj rfl rfl rfl ?_; refine Qj rfl rfl rfl ?_; refine Qj rfl rfl rfl ?_; refine Qj rfl rfl rfl ?_; refine Qj rfl rfl rfl ?_; refine Qj rfl rfl rfl ?_; refine Qj rfl rfl rfl ?_; refine Qj rfl rfl rfl ?_; refine Q2 rfl rfl rfl rfl ?_; refine Qz rfl rfl rfl ?_; refine Qj rfl rfl rfl ?_; refine Qj rfl rfl rfl ?_; refine Qj rfl rfl rfl ?_; refine Qj rfl rfl rfl ?_; refine Qj rfl rfl rfl ?_; refine Qj rfl rfl rfl ?_; refine Qj rfl rfl rfl ?_; refine Qj rfl rfl rfl ?_; refine Q2 rfl rfl rfl rfl ?_; refine Qz rfl rfl rfl ?_; refine Qj rfl rfl rfl ?_; refine Qj rfl rfl rfl ?_; refine Qj rfl rfl rfl ?_; refine Q2 rfl rfl rfl rfl ?_; refine Qy rfl rfl rfl ?_; refine Qv (hK _ _ (Qq (Q0 ?_))); clear hK K)
      refine Q1 [_] rfl (QJ rfl QX) (by rw [e]; rfl) rfl
  · (refine Qw (Qx fun K hK => ?_); refine Qf 0 rfl rfl rfl rfl rfl rfl rfl ?_; refine Qy rfl rfl rfl ?_; refine Qv (hK _ _ (Qq (Qw (Qw ?_)))); clear hK K; refine Qx (fun K hK => ?_); refine Qu rfl rfl rfl (by with_reducible first | exact fK0 | exact fK1 | exact fK2 | exact fK3 | exact fK4 | exact fK5 | exact fK6 | exact fE0 | exact fE1 | exact fE2 | exact fE3 | exact fA0 | exact fD0 | exact fD1) rfl ?_; refine QQ rfl rfl rfl rfl rfl (by with_reducible first | exact lInt | exact QU | exact QW | exact QY | exact lIDs) rfl ?_; refine Qv (hK _ _ (Qq (Q4 (Qw (Q4 (Qw (Q4 (Qw (Q4 (Qw (Q4 (Qw (Qw (Qw (Qw ?_))))))))))))))); clear hK K; refine Qx (fun K hK => ?_); refine Qk ieql rfl rfl rfl rfl ?_; refine Qy rfl rfl rfl ?_; refine Qv (hK _ _ (Qq (Qe rfl ?_))); clear hK K; refine Qx (fun K hK => ?_); refine Qk ieql rfl rfl rfl rfl ?_; refine Qy rfl rfl rfl ?_; refine Qv (hK _ _ (Qq (Qe rfl (Q5 (Qq (Qw (Qw ?_))))))); clear hK K; refine Qx (fun K hK => ?_); refine Qk ieql rfl rfl rfl rfl ?_; refine Qy rfl rfl rfl ?_; refine Qv (hK _ _ (Qq (Qe rfl (Q5 (Qq (Qw (Qw ?_))))))); clear hK K; refine Qx (fun K hK => ?_); refine Qk ieql rfl rfl rfl rfl ?_; refine Qy rfl rfl rfl ?_; refine Qv (hK _ _ (Qq (Qe rfl (Qw ?_)))); clear hK K; refine Qx (fun K hK => ?_); refine Qk ieql rfl rfl rfl rfl ?_; refine Qy rfl rfl rfl ?_; refine Qv (hK _ _ (Qq (Qc rfl (Q5 (Qq (Qc rfl (Qh (Qq (Qh (Qq (Qw ?_))))))))))); clear hK K; refine Qx (fun K hK => ?_); refine Qu rfl rfl rfl (by with_reducible first | exact fK0 | exact fK1 | exact fK2 | exact fK3 | exact fK4 | exact fK5 | exact fK6 | exact fE0 | exact fE1 | exact fE2 | exact fE3 | exact fA0 | exact fD0 | exact fD1) rfl ?_; refine QQ rfl rfl rfl rfl rfl (by with_reducible first | exact lInt | exact QU | exact QW | exact QY | exact lIDs) rfl ?_; refine Qk ineq rfl rfl rfl rfl ?_; refine Qz rfl rfl rfl ?_)
    refine Q8 25 rfl (fun h1 => ?_) (fun h1 => ?_)
    · (refine Qu rfl rfl rfl (by with_reducible first | exact fK0 | exact fK1 | exact fK2 | exact fK3 | exact fK4 | exact fK5 | exact fK6 | exact fE0 | exact fE1 | exact fE2 | exact fE3 | exact fA0 | exact fD0 | exact fD1) rfl ?_; refine QQ rfl rfl rfl rfl rfl (by with_reducible first | exact lInt | exact QU | exact QW | exact QY | exact lIDs) rfl ?_; refine Qu rfl rfl rfl (by with_reducible first | exact fK0 | exact fK1 | exact fK2 | exact fK3 | exact fK4 | exact fK5 | exact fK6 | exact fE0 | exact fE1 | exact fE2 | exact fE3 | exact fA0 | exact fD0 | exact fD1) rfl ?_; refine QQ rfl rfl rfl rfl rfl (by with_reducible first | exact lInt | exact QU | exact QW | exact QY | exact lIDs) rfl ?_; refine Qu rfl rfl rfl (by with_reducible first | exact fK0 | exact fK1 | exact fK2 | exact fK3 | exact fK4 | exact fK5 | exact fK6 | exact fE0 | exact fE1 | exact fE2 | exact fE3 | exact fA0 | exact fD0 | exact fD1) rfl ?_; refine QQ rfl rfl rfl rfl rfl (by with_reducible first | exact lInt | exact QU | exact QW | exact QY | exact lIDs) rfl ?_; refine Z5 rfl rfl rfl rfl rfl ?_; refine Qk igeq rfl rfl rfl rfl ?_; refine QZ rfl rfl rfl rfl ?_; refine Qz rfl rfl rfl ?_)
      refine Q8 35 rfl (fun h2 => ?_) (fun h2 => ?_)
      · (refine Qu rfl rfl rfl (by with_reducible first | exact fK0 | exact fK1 | exact fK2 | exact fK3 | exact fK4 | exact fK5 | exact fK6 | exact fE0 | exact fE1 | exact fE2 | exact fE3 | exact fA0 | exact fD0 | exact fD1) rfl ?_; refine QQ rfl rfl rfl rfl rfl (by with_reducible first | exact lInt | exact QU | exact QW | exact QY | exact lIDs) rfl ?_; refine Qu rfl rfl rfl (by with_reducible first | exact fK0 | exact fK1 | exact fK2 | exact fK3 | exact fK4 | exact fK5 | exact fK6 | exact fE0 | exact fE1 | exact fE2 | exact fE3 | exact fA0 | exact fD0 | exact fD1) rfl ?_; refine QQ rfl rfl rfl rfl rfl (by with_reducible first | exact lInt | exact QU | exact QW | exact QY | exact lIDs) rfl ?_; refine Qu rfl rfl rfl (by with_reducible first | exact fK0 | exact fK1 | exact fK2 | exact fK3 | exact fK4 | exact fK5 | exact fK6 | exact fE0 | exact fE1 | exact fE2 | exact fE3 | exact fA0 | exact fD0 | exact fD1) rfl ?_; refine QQ rfl rfl rfl rfl rfl (by with_reducible first | exact lInt | exact QU | exact QW | exact QY | exact lIDs) rfl ?_; refine Z6 rfl rfl rfl rfl rfl ?_; refine Qk ileq rfl rfl rfl rfl ?_; refine QZ rfl rfl rfl rfl ?_; refine Qz rfl rfl rfl ?_)
        refine Q8 45 rfl (fun h3 => ?_) (fun h3 => ?_)
        · have e : validC ⟨5, a, b, lo, hi, t, s⟩ = decide (0 ≤ s) := decide_eq_decide.2 (by unfold ValidP; (try dsimp only at g1); (try dsimp only at g2); (try dsimp only at h1); (try dsimp only at h2); (try dsimp only at h3); dsimp only; omega)
          (refine Qu rfl rfl rfl (by with_reducible first | exact fK0 | exact fK1 | exact fK2 | exact fK3 | exact fK4 | exact fK5 | exact fK6 | exact fE0 | exact fE1 | exact fE2 | exact fE3 | exact fA0 | exact fD0 | exact fD1) rfl ?_; refine QQ rfl rfl rfl rfl rfl (by with_reducible first | exact lInt | exact QU | exact QW | exact QY | exact lIDs) rfl ?_; refine Qk igeq rfl rfl rfl rfl ?_; refine QZ rfl rfl rfl rfl ?_; refine Qy rfl rfl rfl ?_; refine Qv (hK _ _ (Qq (Q0 ?_))); clear hK K)
          refine Q1 [_] rfl (QJ rfl QX) (by rw [e]; rfl) rfl
        · have e : validC ⟨5, a, b, lo, hi, t, s⟩ = false := decide_eq_false (by unfold ValidP; (try dsimp only at g1); (try dsimp only at g2); (try dsimp only at h1); (try dsimp only at h2); (try dsimp only at h3); dsimp only; omega)
          (refine Qj rfl rfl rfl ?_; refine Qj rfl rfl rfl ?_; refine Qj rfl rfl rfl ?_; refine Q2 rfl rfl rfl rfl ?_; refine Qy rfl rfl rfl ?_; refine Qv (hK _ _ (Qq (Q0 ?_))); clear hK K)
          refine Q1 [_] rfl (QJ rfl QX) (by rw [e]; rfl) rfl
      · have e : validC ⟨5, a, b, lo, hi, t, s⟩ = false := decide_eq_false (by unfold ValidP; (try dsimp only at g1); (try dsimp only at g2); (try dsimp only at h1); (try dsimp only at h2); (try dsimp only at h3); dsimp only; omega)
        (refine Qj rfl rfl rfl ?_; refine Qj rfl rfl rfl ?_; refine Qj rfl rfl rfl ?_; refine Qj rfl rfl rfl ?_; refine Qj rfl rfl rfl ?_; refine Qj rfl rfl rfl ?_; refine Qj rfl rfl rfl ?_; refine Qj rfl rfl rfl ?_; refine Q2 rfl rfl rfl rfl ?_; refine Qz rfl rfl rfl ?_; refine Qj rfl rfl rfl ?_; refine Qj rfl rfl rfl ?_; refine Qj rfl rfl rfl ?_; refine Q2 rfl rfl rfl rfl ?_; refine Qy rfl rfl rfl ?_; refine Qv (hK _ _ (Qq (Q0 ?_))); clear hK K)
        refine Q1 [_] rfl (QJ rfl QX) (by rw [e]; rfl) rfl
    · have e : validC ⟨5, a, b, lo, hi, t, s⟩ = false := decide_eq_false (by unfold ValidP; (try dsimp only at g1); (try dsimp only at g2); (try dsimp only at h1); (try dsimp only at h2); (try dsimp only at h3); dsimp only; omega)
      (refine Qj rfl rfl rfl ?_; refine Qj rfl rfl rfl ?_; refine Qj rfl rfl rfl ?_; refine Qj rfl rfl rfl ?_; refine Qj rfl rfl rfl ?_; refine Qj rfl rfl rfl ?_; refine Qj rfl rfl rfl ?_; refine Qj rfl rfl rfl ?_; refine Q2 rfl rfl rfl rfl ?_; refine Qz rfl rfl rfl ?_; refine Qj rfl rfl rfl ?_; refine Qj rfl rfl rfl ?_; refine Qj rfl rfl rfl ?_; refine Qj rfl rfl rfl ?_; refine Qj rfl rfl rfl ?_; refine Qj rfl rfl rfl ?_; refine Qj rfl rfl rfl ?_; refine Qj rfl rfl rfl ?_; refine Q2 rfl rfl rfl rfl ?_; refine Qz rfl rfl rfl ?_; refine Qj rfl rfl rfl ?_; refine Qj rfl rfl rfl ?_; refine Qj rfl rfl rfl ?_; refine Q2 rfl rfl rfl rfl ?_; refine Qy rfl rfl rfl ?_; refine Qv (hK _ _ (Qq (Q0 ?_))); clear hK K)
      refine Q1 [_] rfl (QJ rfl QX) (by rw [e]; rfl) rfl
  · (refine Qw (Qx fun K hK => ?_); refine Qf 0 rfl rfl rfl rfl rfl rfl rfl ?_; refine Qy rfl rfl rfl ?_; refine Qv (hK _ _ (Qq (Qw (Qw ?_)))); clear hK K; refine Qx (fun K hK => ?_); refine Qu rfl rfl rfl (by with_reducible first | exact fK0 | exact fK1 | exact fK2 | exact fK3 | exact fK4 | exact fK5 | exact fK6 | exact fE0 | exact fE1 | exact fE2 | exact fE3 | exact fA0 | exact fD0 | exact fD1) rfl ?_; refine QQ rfl rfl rfl rfl rfl (by with_reducible first | exact lInt | exact QU | exact QW | exact QY | exact lIDs) rfl ?_; refine Qv (hK _ _ (Qq (Q4 (Qw (Q4 (Qw (Q4 (Qw (Q4 (Qw (Q4 (Qw (Qw (Qw (Qw ?_))))))))))))))); clear hK K; refine Qx (fun K hK => ?_); refine Qk ieql rfl rfl rfl rfl ?_; refine Qy rfl rfl rfl ?_; refine Qv (hK _ _ (Qq (Qe rfl ?_))); clear hK K; refine Qx (fun K hK => ?_); refine Qk ieql rfl rfl rfl rfl ?_; refine Qy rfl rfl rfl ?_; refine Qv (hK _ _ (Qq (Qe rfl (Q5 (Qq (Qw (Qw ?_))))))); clear hK K; refine Qx (fun K hK => ?_); refine Qk ieql rfl rfl rfl rfl ?_; refine Qy rfl rfl rfl ?_; refine Qv (hK _ _ (Qq (Qe rfl (Q5 (Qq (Qw (Qw ?_))))))); clear hK K; refine Qx (fun K hK => ?_); refine Qk ieql rfl rfl rfl rfl ?_; refine Qy rfl rfl rfl ?_; refine Qv (hK _ _ (Qq (Qe rfl (Qw ?_)))); clear hK K; refine Qx (fun K hK => ?_); refine Qk ieql rfl rfl rfl rfl ?_; refine Qy rfl rfl rfl ?_; refine Qv (hK _ _ (Qq (Qe rfl ?_))); clear hK K; refine Qx (fun K hK => ?_); refine Qk ieql rfl rfl rfl rfl ?_; refine Qy rfl rfl rfl ?_; refine Qv (hK _ _ (Qq (Qc rfl (Qh (Qq (Qh (Qq (Qw ?_)))))))); clear hK K; refine Qx (fun K hK => ?_); refine Qu rfl rfl rfl (by with_reducible first | exact fK0 | exact fK1 | exact fK2 | exact fK3 | exact fK4 | exact fK5 | exact fK6 | exact fE0 | exact fE1 | exact fE2 | exact fE3 | exact fA0 | exact fD0 | exact fD1) rfl ?_; refine QQ rfl rfl rfl rfl rfl (by with_reducible first | exact lInt | exact QU | exact QW | exact QY | exact lIDs) rfl ?_; refine Qk ineq rfl rfl rfl rfl ?_; refine Qz rfl rfl rfl ?_)
    refine Q8 25 rfl (fun h1 => ?_) (fun h1 => ?_)
    · (refine Qu rfl rfl rfl (by with_reducible first | exact fK0 | exact fK1 | exact fK2 | exact fK3 | exact fK4 | exact fK5 | exact fK6 | exact fE0 | exact fE1 | exact fE2 | exact fE3 | exact fA0 | exact fD0 | exact fD1) rfl ?_; refine QQ rfl rfl rfl rfl rfl (by with_reducible first | exact lInt | exact QU | exact QW | exact QY | exact lIDs) rfl ?_; refine Qu rfl rfl rfl (by with_reducible first | exact fK0 | exact fK1 | exact fK2 | exact fK3 | exact fK4 | exact fK5 | exact fK6 | exact fE0 | exact fE1 | exact fE2 | exact fE3 | exact fA0 | exact fD0 | exact fD1) rfl ?_; refine QQ rfl rfl rfl rfl rfl (by with_reducible first | exact lInt | exact QU | exact QW | exact QY | exact lIDs) rfl ?_; refine Qu rfl rfl rfl (by with_reducible first | exact fK0 | exact fK1 | exact fK2 | exact fK3 | exact fK4 | exact fK5 | exact fK6 | exact fE0 | exact fE1 | exact fE2 | exact fE3 | exact fA0 | exact fD0 | exact fD1) rfl ?_; refine QQ rfl rfl rfl rfl rfl (by with_reducible first | exact lInt | exact QU | exact QW | exact QY | exact lIDs) rfl ?_; refine Z5 rfl rfl rfl rfl rfl ?_; refine Qk igeq rfl rfl rfl rfl ?_; refine QZ rfl rfl rfl rfl ?_; refine Qz rfl rfl rfl ?_)
      refine Q8 35 rfl (fun h2 => ?_) (fun h2 => ?_)
      · (refine Qu rfl rfl rfl (by with_reducible first | exact fK0 | exact fK1 | exact fK2 | exact fK3 | exact fK4 | exact fK5 | exact fK6 | exact fE0 | exact fE1 | exact fE2 | exact fE3 | exact fA0 | exact fD0 | exact fD1) rfl ?_; refine QQ rfl rfl rfl rfl rfl (by with_reducible first | exact lInt | exact QU | exact QW | exact QY | exact lIDs) rfl ?_; refine Qu rfl rfl rfl (by with_reducible first | exact fK0 | exact fK1 | exact fK2 | exact fK3 | exact fK4 | exact fK5 | exact fK6 | exact fE0 | exact fE1 | exact fE2 | exact fE3 | exact fA0 | exact fD0 | exact fD1) rfl ?_; refine QQ rfl rfl rfl rfl rfl (by with_reducible first | exact lInt | exact QU | exact QW | exact QY | exact lIDs) rfl ?_; refine Qu rfl rfl rfl (by with_reducible first | exact fK0 | exact fK1 | exact fK2 | exact fK3 | exact fK4 | exact fK5 | exact fK6 | exact fE0 | exact fE1 | exact fE2 | exact fE3 | exact fA0 | exact fD0 | exact fD1) rfl ?_; refine QQ rfl rfl rfl rfl rfl (by with_reducible first | exact lInt | exact QU | exact QW | exact QY | exact lIDs) rfl ?_; refine Z6 rfl rfl rfl rfl rfl ?_; refine Qk ileq rfl rfl rfl rfl ?_; refine QZ rfl rfl rfl rfl ?_; refine Qz rfl rfl rfl ?_)
        refine Q8 45 rfl (fun h3 => ?_) (fun h3 => ?_)
        · have e : validC ⟨6, a, b, lo, hi, t, s⟩ = decide (0 ≤ s) := decide_eq_decide.2 (by unfold ValidP; (try dsimp only at g1); (try dsimp only at g2); (try dsimp only at h1); (try dsimp only at h2); (try dsimp only at h3); dsimp only; omega)
          (refine Qu rfl rfl rfl (by with_reducible first | exact fK0 | exact fK1 | exact fK2 | exact fK3 | exact fK4 | exact fK5 | exact fK6 | exact fE0 | exact fE1 | exact fE2 | exact fE3 | exact fA0 | exact fD0 | exact fD1) rfl ?_; refine QQ rfl rfl rfl rfl rfl (by with_reducible first | exact lInt | exact QU | exact QW | exact QY | exact lIDs) rfl ?_; refine Qk igeq rfl rfl rfl rfl ?_; refine QZ rfl rfl rfl rfl ?_; refine Qy rfl rfl rfl ?_; refine Qv (hK _ _ (Qq (Q0 ?_))); clear hK K)
          refine Q1 [_] rfl (QJ rfl QX) (by rw [e]; rfl) rfl
        · have e : validC ⟨6, a, b, lo, hi, t, s⟩ = false := decide_eq_false (by unfold ValidP; (try dsimp only at g1); (try dsimp only at g2); (try dsimp only at h1); (try dsimp only at h2); (try dsimp only at h3); dsimp only; omega)
          (refine Qj rfl rfl rfl ?_; refine Qj rfl rfl rfl ?_; refine Qj rfl rfl rfl ?_; refine Q2 rfl rfl rfl rfl ?_; refine Qy rfl rfl rfl ?_; refine Qv (hK _ _ (Qq (Q0 ?_))); clear hK K)
          refine Q1 [_] rfl (QJ rfl QX) (by rw [e]; rfl) rfl
      · have e : validC ⟨6, a, b, lo, hi, t, s⟩ = false := decide_eq_false (by unfold ValidP; (try dsimp only at g1); (try dsimp only at g2); (try dsimp only at h1); (try dsimp only at h2); (try dsimp only at h3); dsimp only; omega)
        (refine Qj rfl rfl rfl ?_; refine Qj rfl rfl rfl ?_; refine Qj rfl rfl rfl ?_; refine Qj rfl rfl rfl ?_; refine Qj rfl rfl rfl ?_; refine Qj rfl rfl rfl ?_; refine Qj rfl rfl rfl ?_; refine Qj rfl rfl rfl ?_; refine Q2 rfl rfl rfl rfl ?_; refine Qz rfl rfl rfl ?_; refine Qj rfl rfl rfl ?_; refine Qj rfl rfl rfl ?_; refine Qj rfl rfl rfl ?_; refine Q2 rfl rfl rfl rfl ?_; refine Qy rfl rfl rfl ?_; refine Qv (hK _ _ (Qq (Q0 ?_))); clear hK K)
        refine Q1 [_] rfl (QJ rfl QX) (by rw [e]; rfl) rfl
    · have e : validC ⟨6, a, b, lo, hi, t, s⟩ = false := decide_eq_false (by unfold ValidP; (try dsimp only at g1); (try dsimp only at g2); (try dsimp only at h1); (try dsimp only at h2); (try dsimp only at h3); dsimp only; omega)
      (refine Qj rfl rfl rfl ?_; refine Qj rfl rfl rfl ?_; refine Qj rfl rfl rfl ?_; refine Qj rfl rfl rfl ?_; refine Qj rfl rfl rfl ?_; refine Qj rfl rfl rfl ?_; refine Qj rfl rfl rfl ?_; refine Qj rfl rfl rfl ?_; refine Q2 rfl rfl rfl rfl ?_; refine Qz rfl rfl rfl ?_; refine Qj rfl rfl rfl ?_; refine Qj rfl rfl rfl ?_; refine Qj rfl rfl rfl ?_; refine Qj rfl rfl rfl ?_; refine Qj rfl rfl rfl ?_; refine Qj rfl rfl rfl ?_; refine Qj rfl rfl rfl ?_; refine Qj rfl rfl rfl ?_; refine Q2 rfl rfl rfl rfl ?_; refine Qz rfl rfl rfl ?_; refine Qj rfl rfl rfl ?_; refine Qj rfl rfl rfl ?_; refine Qj rfl rfl rfl ?_; refine Q2 rfl rfl rfl rfl ?_; refine Qy rfl rfl rfl ?_; refine Qv (hK _ _ (Qq (Q0 ?_))); clear hK K)
      refine Q1 [_] rfl (QJ rfl QX) (by rw [e]; rfl) rfl
  · (refine Qw (Qx fun K hK => ?_); refine Qf 0 rfl rfl rfl rfl rfl rfl rfl ?_; refine Qy rfl rfl rfl ?_; refine Qv (hK _ _ (Qq (Qw (Qw ?_)))); clear hK K; refine Qx (fun K hK => ?_); refine Qu rfl rfl rfl (by with_reducible first | exact fK0 | exact fK1 | exact fK2 | exact fK3 | exact fK4 | exact fK5 | exact fK6 | exact fE0 | exact fE1 | exact fE2 | exact fE3 | exact fA0 | exact fD0 | exact fD1) rfl ?_; refine QQ rfl rfl rfl rfl rfl (by with_reducible first | exact lInt | exact QU | exact QW | exact QY | exact lIDs) rfl ?_; refine Qv (hK _ _ (Qq (Q4 (Qw (Q4 (Qw (Q4 (Qw (Q4 (Qw (Q4 (Qw (Qw (Qw (Qw ?_))))))))))))))); clear hK K; refine Qx (fun K hK => ?_); refine Qk ieql rfl rfl rfl rfl ?_; refine Qy rfl rfl rfl ?_; refine Qv (hK _ _ (Qq ?_)); clear hK K)
    refine Q7 rfl (fun g1 => by exfalso; dsimp only at g1; omega) (fun _ => ?_)
    (refine Qx (fun K hK => ?_); refine Qk ieql rfl rfl rfl rfl ?_; refine Qy rfl rfl rfl ?_; refine Qv (hK _ _ (Qq ?_)); clear hK K)
    refine Q7 rfl (fun g1 => by exfalso; dsimp only at g1; omega) (fun _ => ?_)
    (refine Q5 (Qq (Qw (Qw (Qx fun K hK => ?_)))); refine Qk ieql rfl rfl rfl rfl ?_; refine Qy rfl rfl rfl ?_; refine Qv (hK _ _ (Qq ?_)); clear hK K)
    refine Q7 rfl (fun g1 => by exfalso; dsimp only at g1; omega) (fun _ => ?_)
    (refine Q5 (Qq (Qw (Qw (Qx fun K hK => ?_)))); refine Qk ieql rfl rfl rfl rfl ?_; refine Qy rfl rfl rfl ?_; refine Qv (hK _ _ (Qq ?_)); clear hK K)
    refine Q7 rfl (fun g1 => by exfalso; dsimp only at g1; omega) (fun _ => ?_)
    (refine Qw (Qx fun K hK => ?_); refine Qk ieql rfl rfl rfl rfl ?_; refine Qy rfl rfl rfl ?_; refine Qv (hK _ _ (Qq ?_)); clear hK K)
    refine Q7 rfl (fun g1 => by exfalso; dsimp only at g1; omega) (fun _ => ?_)
    (refine Qx (fun K hK => ?_); refine Qk ieql rfl rfl rfl rfl ?_; refine Qy rfl rfl rfl ?_; refine Qv (hK _ _ (Qq ?_)); clear hK K)
    refine Q7 rfl (fun g1 => by exfalso; dsimp only at g1; omega) (fun _ => ?_)
    have e : validC ⟨k, a, b, lo, hi, t, s⟩ = false := decide_eq_false (by unfold ValidP; (try dsimp only at g1); (try dsimp only at g2); (try dsimp only at h1); (try dsimp only at h2); (try dsimp only at h3); dsimp only; omega)
    (refine Q5 (Qq (Qh (Qq (Qw (Qw (Qx fun K hK => ?_)))))); refine Qy rfl rfl rfl ?_; refine Qv (hK _ _ (Qq (Q0 (QV (Q6 (QV ?_)))))); clear hK K)
    refine Q1 [_] rfl (QJ rfl QX) (by rw [e]; rfl) rfl
theorem bad_gen (c : Cl) : Ok Tryz.prog 71 [clC c] (boolC (!validC c)) := by
  refine Ok.enter Tryz.func71 rfl _ Tryz.ntmps71 rfl ?_
  intro S w
  (refine Qw (Qx fun K hK => ?_); refine Qf 0 rfl rfl rfl rfl rfl rfl rfl ?_; refine Qy rfl rfl rfl ?_; refine Qv (hK _ _ (Qq (Qw ?_))); clear hK K; refine Qx (fun K hK => ?_); refine Qm (n := 7) rfl rfl rfl rfl rfl (by with_reducible exact Xz) rfl ?_)
  refine Q3 goaValid (aValid_gen c) rfl rfl rfl rfl ?_
  (refine Qb rfl rfl rfl ?_; refine Qy rfl rfl rfl ?_; refine Qv (hK _ _ (Qq (Q0 ?_))); clear hK K)
  refine Q1 [_] rfl (QJ rfl QX) rfl rfl
abbrev badB (c : Cl) : Bool := !validC c
theorem IndexF_gen (l : List Cl) (hl : l.length ≤ 1000) : Ok Tryz.prog 87 [clsC l, badV] (intC (idxQ badB l)) := by
  refine Ok.enter Tryz.func87 rfl _ Tryz.ntmps87 rfl ?_
  intro S w
  (refine Qw (Qx fun K hK => ?_); refine Qy rfl rfl rfl ?_; refine Qv (hK _ _ (Qq (Qw (Qw ?_)))); clear hK K; refine Qx (fun K hK => ?_); refine Qz rfl rfl rfl ?_; refine Qd rfl rfl (by with_reducible first | exact sClaims.und | exact sInts.und | exact sLists.und) (List.length_map ..) rfl ?_; refine Qz rfl rfl rfl ?_; refine Qv (hK _ _ (Qq (Q4 ?_))); clear hK K)
  refine Qt (α := Nat) (fun i => i ≤ l.length ∧ ∀ j, j < i → badB (l.getD j c0) = false)
    (fun i => [(0, .ct (clsC l)), (1, .ct badV), (7, .ct (intC l.length)), (8, .ct (intC i))]) (fun _ => []) (fun i => l.length - i) 0 ⟨Nat.zero_le _, fun j h => absurd h (Nat.not_lt_zero j)⟩ (by exact QK rfl ⟨rfl, rfl, rfl, rfl, trivial⟩) ?_
  intro i ⟨hi, hv⟩
  dsimp only at hi hv ⊢
  (refine Qw (Qx fun K hK => ?_); refine Qk ilss rfl rfl rfl rfl ?_; refine Qv (hK _ _ (Qq (Qw ?_))); clear hK K)
  refine Q7 rfl (fun h => ?_) (fun h => ?_)
  · have e2 : (i : Int).toNat = i := Int.toNat_natCast i
    (refine Q5 (Qq (Qw (Q4 (Qw (Qx fun K hK => ?_))))); refine Qz rfl rfl rfl ?_; refine Qy rfl rfl rfl ?_; refine Qv (hK _ _ (Qq (Qw ?_))); clear hK K; refine Qx (fun K hK => ?_); refine Qz rfl rfl rfl ?_; refine Qz rfl rfl rfl ?_; refine Qz rfl rfl rfl ?_; refine Ql rfl rfl rfl (by with_reducible exact sClaims) (by omega) (Xg (by omega) (by omega)) rfl ?_; refine Qs (n := 7) rfl rfl rfl (by with_reducible exact Xz) rfl rfl ?_)
    rw [e2]
    refine Ops.callF gobad rfl (bad_gen _) rfl rfl rfl rfl ?_
    (refine Qv (hK _ _ (Qq ?_)); clear hK K)
    refine X5 rfl (fun h2 => ?_) (fun h2 => ?_)
    · (refine Qw (Qx fun K hK => ?_); refine Qz rfl rfl rfl ?_; refine Qy rfl rfl rfl ?_; refine Qv (hK _ _ (Qq (Q0 (Q6 (QV (QV (Q6 (QV ?_)))))))); clear hK K)
      refine Q1 [_] rfl (QJ rfl QX) (by rw [idxQ_hit (by omega) h2 hv]; rfl) rfl
    · (refine Q5 (Qq (Qx fun K hK => ?_)); refine Qk (iadd (by omega) (by omega)) rfl rfl rfl rfl ?_; refine Qz rfl rfl rfl ?_; refine Qv (hK _ _ (Qa ?_)); clear hK K)
      refine Qg (i + 1) (by omega) ⟨by omega, ?_⟩ (by exact QK rfl ⟨rfl, rfl, rfl, by simp only [Int.natCast_add]; rfl, trivial⟩)
      intro j hj
      rcases Nat.lt_or_ge j i with h3 | h3
      · exact hv j h3
      · have : j = i := by omega
        rw [this]; exact h2
  · have hi' : i = l.length := by omega
    (refine Qh (Qq (Qw (Qx fun K hK => ?_))); refine Qy rfl rfl rfl ?_; refine Qv (hK _ _ (Qq (Q0 ?_))); clear hK K)
    refine Q1 [_] rfl (QJ rfl QX) (by rw [idxQ_miss (fun j hj => hv j (by omega))]; rfl) rfl
theorem ContF_gen (l : List Cl) (hl : l.length ≤ 1000) : Ok Tryz.prog 73 [clsC l, badV] (boolC (l.any badB)) := by
  refine Ok.enter Tryz.func73 rfl _ Tryz.ntmps73 rfl ?_
  intro S w
  (refine Qw (Qx fun K hK => ?_); refine Qy rfl rfl rfl ?_; refine Qv (hK _ _ (Qq (Qw ?_))); clear hK K; refine Qx (fun K hK => ?_); refine Qz rfl rfl rfl ?_; refine Qz rfl rfl rfl ?_)
  refine Q3 goIndexF (IndexF_gen l hl) rfl rfl rfl rfl ?_
  (refine Qk igeq rfl rfl rfl rfl ?_; refine Qy rfl rfl rfl ?_; refine Qv (hK _ _ (Qq (Q0 ?_))); clear hK K)
  refine Q1 [_] rfl (QJ rfl QX) (by rw [← idxQ_any]; rfl) rfl
theorem eq_getD {l m : List Cl} (h : l.length = m.length) (hv : ∀ j, j < l.length → l.getD j c0 = m.getD j c0) : l = m :=
  List.ext_getElem h fun j h1 h2 => by
    have := hv j h1
    rw [List.getD_eq_getElem?_getD, List.getD_eq_getElem?_getD, List.getElem?_eq_getElem h1, List.getElem?_eq_getElem h2] at this
    exact this
set_option maxHeartbeats 4000000 in
theorem Equal_gen (l m : List Cl) (hl : l.length ≤ 1000) (hm : m.length ≤ 1000) : Ok Tryz.prog 52 [clsC l, clsC m] (boolC (decide (l = m))) := by
  refine Ok.enter Tryz.func52 rfl _ Tryz.ntmps52 rfl ?_
  intro S w
  (refine Qw (Qx fun K hK => ?_); refine Qy rfl rfl rfl ?_; refine Qv (hK _ _ (Qq (Qw (Qw ?_)))); clear hK K; refine Qx (fun K hK => ?_); refine Qz rfl rfl rfl ?_; refine Qd rfl rfl (by with_reducible first | exact sClaims.und | exact sInts.und | exact sLists.und) (List.length_map ..) rfl ?_; refine Qz rfl rfl rfl ?_; refine Qd rfl rfl (by with_reducible first | exact sClaims.und | exact sInts.und | exact sLists.und) (List.length_map ..) rfl ?_; refine Qk ineq rfl rfl rfl rfl ?_; refine Qv (hK _ _ (Qq ?_)); clear hK K)
  refine Q7 rfl (fun h => ?_) (fun h => ?_)
  · have e : decide (l = m) = false := decide_eq_false (fun e => h (by rw [e]))
    (refine Qw (Qx fun K hK => ?_); refine Qy rfl rfl rfl ?_; refine Qv (hK _ _ (Qq (Q0 (QV ?_)))); clear hK K)
    refine Q1 [_] rfl (QJ rfl QX) (by rw [e]; rfl) rfl
  have hlm : l.length = m.length := by omega
  (refine Q5 (Qq (Qw (Qw (Qx fun K hK => ?_)))); refine Qz rfl rfl rfl ?_; refine Qd rfl rfl (by with_reducible first | exact sClaims.und | exact sInts.und | exact sLists.und) (List.length_map ..) rfl ?_; refine Qz rfl rfl rfl ?_; refine Qv (hK _ _ (Qq (Q4 ?_))); clear hK K)
  refine Qt (α := Nat) (fun i => i ≤ l.length ∧ ∀ j, j < i → l.getD j c0 = m.getD j c0)
    (fun i => [(0, .ct (clsC l)), (1, .ct (clsC m)), (12, .ct (intC l.length)), (13, .ct (intC i))]) (fun _ => []) (fun i => l.length - i) 0 ⟨Nat.zero_le _, fun j h => absurd h (Nat.not_lt_zero j)⟩ (by exact QK rfl ⟨rfl, rfl, rfl, rfl, trivial⟩) ?_
  rintro i ⟨hi, hv⟩
  dsimp only at hi hv ⊢
  (refine Qw (Qx fun K hK => ?_); refine Qk ilss rfl rfl rfl rfl ?_; refine Qv (hK _ _ (Qq (Qw ?_))); clear hK K)
  refine Q7 rfl (fun h => ?_) (fun h => ?_)
  · have e2 : (i : Int).toNat = i := Int.toNat_natCast i
    have hne : l.getD i c0 ≠ m.getD i c0 → decide (l = m) = false := fun h3 => decide_eq_false (fun e => h3 (by rw [e]))
    (refine Q5 (Qq (Qw (Q4 (Qw (Qx fun K hK => ?_))))); refine Qz rfl rfl rfl ?_; refine Qy rfl rfl rfl ?_; refine Qv (hK _ _ (Qq (Qw ?_))); clear hK K)
    refine Qp (by with_reducible exact mixed) 9 (.p 0 (.p 1 (.p 2 (.p 4 (.p 5 (.p 6 (.f 3 (.f 7 (.p 8 .done))))))))) (by kernel_rfl) (fun K hK => ?_)
    (refine Qz rfl rfl rfl ?_; refine Qz rfl rfl rfl ?_; refine Ql rfl rfl rfl (by with_reducible exact sClaims) (by omega) (Xg (by omega) (by omega)) rfl ?_; refine Qz rfl rfl rfl ?_; refine Qz rfl rfl rfl ?_; refine Ql rfl rfl rfl (by with_reducible exact sClaims) (by omega) (Xg (by omega) (by omega)) rfl ?_; refine Qs (n := 7) rfl rfl rfl (by with_reducible exact Xz) rfl rfl ?_; refine Qs (n := 7) rfl rfl rfl (by with_reducible exact Xz) rfl rfl ?_)
    rw [e2]
    refine neCl' _ _ rfl rfl rfl rfl rfl ?_
    (refine Qv (hK _ _ (Qq ?_)); clear hK K)
    refine Q7 rfl (fun h4 => ?_) (fun h4 => ?_)
    · have e := hne h4
      (refine Qw (Qx fun K hK => ?_); refine Qy rfl rfl rfl ?_; refine Qv (hK _ _ (Qq (Q0 (Q6 (QV (QV (Q6 (QV ?_)))))))); clear hK K)
      refine Q1 [_] rfl (QJ rfl QX) (by rw [e]; rfl) rfl
    · (refine Q5 (Qq (Qx fun K hK => ?_)); refine Qk (iadd (by omega) (by omega)) rfl rfl rfl rfl ?_; refine Qz rfl rfl rfl ?_; refine Qv (hK _ _ (Qa ?_)); clear hK K)
      refine Qg (i + 1) (by omega) ⟨by omega, fun j hj => ?_⟩ (by exact QK rfl ⟨rfl, rfl, rfl, by simp only [Int.natCast_add]; rfl, trivial⟩)
      rcases Nat.lt_or_ge j i with h5 | h5
      · exact hv j h5
      · have : j = i := by omega
        subst this; exact Classical.not_not.1 h4
  · have e : decide (l = m) = true := decide_eq_true (eq_getD hlm fun j hj => hv j (by omega))
    (refine Qh (Qq (Qw (Qx fun K hK => ?_))); refine Qy rfl rfl rfl ?_; refine Qv (hK _ _ (Qq (Q0 ?_))); clear hK K)
    refine Q1 [_] rfl (QJ rfl QX) (by rw [e]; rfl) rfl
set_option maxHeartbeats 4000000 in
theorem SameClaims_gen (l m : List Cl) (hl : l.length ≤ 1000) (hm : m.length ≤ 1000) : Ok Tryz.prog 20 [clsC l, clsC m] (boolC (decide (l = m))) := by
  refine Ok.enter Tryz.func20 rfl _ Tryz.ntmps20 rfl ?_
  intro S w
  (refine Qw (Qx fun K hK => ?_); refine Qy rfl rfl rfl ?_; refine Qv (hK _ _ (Qq (Qw (Qw ?_)))); clear hK K; refine Qx (fun K hK => ?_); refine Qz rfl rfl rfl ?_; refine Qd rfl rfl (by with_reducible first | exact sClaims.und | exact sInts.und | exact sLists.und) (List.length_map ..) rfl ?_; refine Qz rfl rfl rfl ?_; refine Qd rfl rfl (by with_reducible first | exact sClaims.und | exact sInts.und | exact sLists.und) (List.length_map ..) rfl ?_; refine Qk ineq rfl rfl rfl rfl ?_; refine Qv (hK _ _ (Qq ?_)); clear hK K)
  refine Q7 rfl (fun h => ?_) (fun h => ?_)
  · have e : decide (l = m) = false := decide_eq_false (fun e => h (by rw [e]))
    (refine Qw (Qx fun K hK => ?_); refine Qy rfl rfl rfl ?_; refine Qv (hK _ _ (Qq (Q0 (QV ?_)))); clear hK K)
    refine Q1 [_] rfl (QJ rfl QX) (by rw [e]; rfl) rfl
  have hlm : l.length = m.length := by omega
  (refine Q5 (Qq (Qw (Qw (Qx fun K hK => ?_)))); refine Qy rfl rfl rfl ?_; refine Qv (hK _ _ (Qq (Q4 ?_))); clear hK K)
  refine Qt (α := Nat) (fun i => i ≤ l.length ∧ ∀ j, j < i → l.getD j c0 = m.getD j c0)
    (fun i => [(0, .ct (clsC l)), (1, .ct (clsC m)), (5, .ct (intC i))]) (fun _ => []) (fun i => l.length - i) 0 ⟨Nat.zero_le _, fun j h => absurd h (Nat.not_lt_zero j)⟩ (by exact QK rfl ⟨rfl, rfl, rfl, trivial⟩) ?_
  rintro i ⟨hi, hv⟩
  dsimp only at hi hv ⊢
  (refine Qw (Qw (Qx fun K hK => ?_)); refine Qz rfl rfl rfl ?_; refine Qz rfl rfl rfl ?_; refine Qd rfl rfl (by with_reducible first | exact sClaims.und | exact sInts.und | exact sLists.und) (List.length_map ..) rfl ?_; refine Qk ilss rfl rfl rfl rfl ?_; refine Qv (hK _ _ (Qq ?_)); clear hK K)
  refine Q7 rfl (fun h => ?_) (fun h => ?_)
  · have e2 : (i : Int).toNat = i := Int.toNat_natCast i
    have hne : l.getD i c0 ≠ m.getD i c0 → decide (l = m) = false := fun h3 => decide_eq_false (fun e => h3 (by rw [e]))
    (refine Q5 (Qq (Qw (Q4 (Qw ?_)))))
    refine Qp (by with_reducible exact mixed) 9 (.p 0 (.p 1 (.p 2 (.p 4 (.p 5 (.p 6 (.f 3 (.f 7 (.p 8 .done))))))))) (by kernel_rfl) (fun K hK => ?_)
    (refine Qz rfl rfl rfl ?_; refine Qz rfl rfl rfl ?_; refine Ql rfl rfl rfl (by with_reducible exact sClaims) (by omega) (Xg (by omega) (by omega)) rfl ?_; refine Qz rfl rfl rfl ?_; refine Qz rfl rfl rfl ?_; refine Ql rfl rfl rfl (by with_reducible exact sClaims) (by omega) (Xg (by omega) (by omega)) rfl ?_; refine Qs (n := 7) rfl rfl rfl (by with_reducible exact Xz) rfl rfl ?_; refine Qs (n := 7) rfl rfl rfl (by with_reducible exact Xz) rfl rfl ?_)
    rw [e2]
    refine neCl' _ _ rfl rfl rfl rfl rfl ?_
    (refine Qv (hK _ _ (Qq ?_)); clear hK K)
    refine Q7 rfl (fun h4 => ?_) (fun h4 => ?_)
    · have e := hne h4
      (refine Qw (Qx fun K hK => ?_); refine Qy rfl rfl rfl ?_; refine Qv (hK _ _ (Qq (Q0 (Q6 (QV (QV (Q6 (QV ?_)))))))); clear hK K)
      refine Q1 [_] rfl (QJ rfl QX) (by rw [e]; rfl) rfl
    · (refine Q5 (Qq (Qx fun K hK => ?_)); refine Qz rfl rfl rfl ?_; refine Qk (iadd (by omega) (by omega)) rfl rfl rfl rfl ?_; refine Qy rfl rfl rfl ?_; refine Qv (hK _ _ (Qa ?_)); clear hK K)
      refine Qg (i + 1) (by omega) ⟨by omega, fun j hj => ?_⟩ (by exact QK rfl ⟨rfl, rfl, by simp only [Int.natCast_add]; rfl, trivial⟩)
      rcases Nat.lt_or_ge j i with h5 | h5
      · exact hv j h5
      · have : j = i := by omega
        subst this; exact Classical.not_not.1 h4
  · have e : decide (l = m) = true := decide_eq_true (eq_getD hlm fun j hj => hv j (by omega))
    (refine Qh (Qq (Qw (Qx fun K hK => ?_))); refine Qy rfl rfl rfl ?_; refine Qv (hK _ _ (Qq (Q0 ?_))); clear hK K)
    refine Q1 [_] rfl (QJ rfl QX) (by rw [e]; rfl) rfl
end Go.Proofs.YtcelmhkpcdhneaaGreat
namespace Go.Own
def oneT : Ty where
  p _ _ v := v.oneCell' = true
  mono _ h := h
  one := true
  hone _ := fun h => h
end Go.Own
namespace Go.Proofs.YtcelmhkpcdhneaaGreat
open Go.Own Go.Limbs
attribute [local irreducible] St Ops Go.Own.Fin Ok OkB OkN OkT OkL OkF
abbrev anyC : CT := .fr oneT
abbrev atXs (l : List Cl) : List CT := [clsC l, anyC, anyC, anyC]
abbrev atX (l : List Cl) : CT := .fr (aggT (atXs l))
theorem ZY (l : List Cl) (hl : l.length ≤ 1000) : Ok Tryz.prog 40 [clsC l] (clsC (sd cmpC l)) := by
  refine Ok.enter Tryz.func40 rfl _ Tryz.ntmps40 rfl ?_
  intro S w
  (refine Qw (Qx fun K hK => ?_); refine Qy rfl rfl rfl ?_; refine Qv (hK _ _ (Qq (Qw ?_))); clear hK K; refine Qx (fun K hK => ?_); refine Qz rfl rfl rfl ?_)
  refine Xn 0 goClone (Clone_ok l (by omega)) rfl rfl rfl rfl rfl rfl ?_
  (refine Qy rfl rfl rfl ?_; refine Qv (hK _ _ (Qq (Qw ?_))); clear hK K; refine Qx (fun K hK => ?_); refine Qz rfl rfl rfl ?_)
  refine Ops.callL goSort (SortC_ok l (by omega)) rfl rfl rfl rfl rfl ?_
  (refine Qv (hK _ _ (Qq (Qw ?_))); clear hK K; refine Qx (fun K hK => ?_); refine Qz rfl rfl rfl ?_)
  refine Yz goCompact_Cl (Compact_Cl_ok _ (by rw [List.length_mergeSort]; omega)) rfl rfl rfl rfl rfl ?_
  (refine Qy rfl rfl rfl ?_; refine Qv (hK _ _ (Qq (Q0 ?_))); clear hK K)
  refine Fin.freeze 0 _ rfl (X0 _ _) X1 ?_
  refine Q1 [_] rfl (QJ rfl QX) rfl rfl
set_option maxHeartbeats 4000000 in
theorem VCmp_gen (a b : List Cl) (ha : a.length ≤ 100) (hb : b.length ≤ 100) : Ok Tryz.prog 16 [atX a, atX b] (dfC (wo (sd cmpC a) (sd cmpC b)) (wo (sd cmpC b) (sd cmpC a))) := by
  have hA := ZY a (by omega)
  have hB := ZY b (by omega)
  have lA := sd_len cmpC a
  have lB := sd_len cmpC b
  generalize sd cmpC a = x at *
  generalize sd cmpC b = y at *
  refine Ok.enter Tryz.func16 rfl _ Tryz.ntmps16 rfl ?_
  intro S w
  (refine Qw (Qx fun K hK => ?_); refine Qf 0 rfl rfl rfl rfl rfl rfl rfl ?_; refine Qf 1 rfl rfl rfl rfl rfl rfl rfl ?_; refine Qo 2 rfl rfl (by with_reducible exact zvDiff) rfl rfl rfl ?_; refine Qv (hK _ _ (Qq (Qw ?_))); clear hK K)
  refine Qp (by with_reducible exact mixed) 8 (.p 0 (.p 3 (.f 1 (.f 4 (.m 2 (.m 5 (.p 6 (.p 7 .done)))))))) (by kernel_rfl) (fun K hK => ?_)
  (refine Qu rfl rfl rfl (by with_reducible first | exact fK0 | exact fK1 | exact fK2 | exact fK3 | exact fK4 | exact fK5 | exact fK6 | exact fE0 | exact fE1 | exact fE2 | exact fE3 | exact fA0 | exact fD0 | exact fD1) rfl ?_; refine Qu rfl rfl rfl (by with_reducible first | exact fK0 | exact fK1 | exact fK2 | exact fK3 | exact fK4 | exact fK5 | exact fK6 | exact fE0 | exact fE1 | exact fE2 | exact fE3 | exact fA0 | exact fD0 | exact fD1) rfl ?_; refine QQ rfl rfl rfl rfl rfl (by with_reducible first | exact lInt | exact QU | exact QW | exact QY | exact lIDs) rfl ?_; refine QQ rfl rfl rfl rfl rfl (by with_reducible first | exact lInt | exact QU | exact QW | exact QY | exact lIDs) rfl ?_)
  refine Q3 Z7 hA rfl rfl rfl rfl ?_
  skip
  refine Q3 Z7 hB rfl rfl rfl rfl ?_
  (refine Qy rfl rfl rfl ?_; refine Qy rfl rfl rfl ?_; refine Qv (hK _ _ (Qq (Qw ?_))); clear hK K; refine Qx (fun K hK => ?_); refine Qz rfl rfl rfl ?_; refine Qz rfl rfl rfl ?_)
  refine Q3 Xt (Xp x y (by omega) (by omega)) rfl rfl rfl rfl ?_
  (refine Qz rfl rfl rfl ?_; refine Qz rfl rfl rfl ?_)
  refine Q3 Xt (Xp y x (by omega) (by omega)) rfl rfl rfl rfl ?_
  refine Xq rfl (by with_reducible exact bDiff) rfl (.one rfl rfl rfl rfl (.one rfl rfl rfl rfl .nil)) rfl ?_
  (refine Qr 2 rfl rfl rfl rfl rfl (by with_reducible exact szDiff) rfl rfl ?_; refine Qv (hK _ _ (Qq (Q0 ?_))); clear hK K)
  refine Fin.end [_] rfl (X4 (n := 2) rfl rfl (by with_reducible exact Zz) rfl QX) rfl rfl
set_option maxHeartbeats 4000000 in
theorem VSame_gen (g m g' m' : List Cl) (h1 : g.length ≤ 1000) (h2 : m.length ≤ 1000) (h3 : g'.length ≤ 1000) (h4 : m'.length ≤ 1000) : Ok Tryz.prog 25 [dfC g m, dfC g' m'] (boolC (decide (g = g') && decide (m = m'))) := by
  have hA := Equal_gen g g' h1 h3
  have hB := Equal_gen m m' h2 h4
  generalize decide (m = m') = b2 at *
  refine Ok.enter Tryz.func25 rfl _ Tryz.ntmps25 rfl ?_
  intro S w
  generalize decide (g = g') = b1 at *
  cases b1 with
  | true =>
    (refine Qw (Qx fun K hK => ?_); refine Qf 0 rfl rfl rfl rfl rfl rfl rfl ?_; refine Qf 1 rfl rfl rfl rfl rfl rfl rfl ?_; refine Qy rfl rfl rfl ?_; refine Qv (hK _ _ (Qq (Qw ?_))); clear hK K; refine Qx (fun K hK => ?_); refine Qu rfl rfl rfl (by with_reducible first | exact fK0 | exact fK1 | exact fK2 | exact fK3 | exact fK4 | exact fK5 | exact fK6 | exact fE0 | exact fE1 | exact fE2 | exact fE3 | exact fA0 | exact fD0 | exact fD1) rfl ?_; refine QQ rfl rfl rfl rfl rfl (by with_reducible first | exact lInt | exact QU | exact QW | exact QY | exact lIDs) rfl ?_; refine Qu rfl rfl rfl (by with_reducible first | exact fK0 | exact fK1 | exact fK2 | exact fK3 | exact fK4 | exact fK5 | exact fK6 | exact fE0 | exact fE1 | exact fE2 | exact fE3 | exact fA0 | exact fD0 | exact fD1) rfl ?_; refine QQ rfl rfl rfl rfl rfl (by with_reducible first | exact lInt | exact QU | exact QW | exact QY | exact lIDs) rfl ?_)
    refine Q3 goEqual hA rfl rfl rfl rfl ?_
    (refine Qz rfl rfl rfl ?_; refine Qu rfl rfl rfl (by with_reducible first | exact fK0 | exact fK1 | exact fK2 | exact fK3 | exact fK4 | exact fK5 | exact fK6 | exact fE0 | exact fE1 | exact fE2 | exact fE3 | exact fA0 | exact fD0 | exact fD1) rfl ?_; refine QQ rfl rfl rfl rfl rfl (by with_reducible first | exact lInt | exact QU | exact QW | exact QY | exact lIDs) rfl ?_; refine Qu rfl rfl rfl (by with_reducible first | exact fK0 | exact fK1 | exact fK2 | exact fK3 | exact fK4 | exact fK5 | exact fK6 | exact fE0 | exact fE1 | exact fE2 | exact fE3 | exact fA0 | exact fD0 | exact fD1) rfl ?_; refine QQ rfl rfl rfl rfl rfl (by with_reducible first | exact lInt | exact QU | exact QW | exact QY | exact lIDs) rfl ?_)
    refine Q3 goEqual hB rfl rfl rfl rfl ?_
    (refine QZ rfl rfl rfl rfl ?_; refine Qy rfl rfl rfl ?_; refine Qv (hK _ _ (Qq (Q0 ?_))); clear hK K)
    refine Q1 [_] rfl (QJ rfl QX) (by rw [Bool.true_and]; rfl) rfl
  | false =>
    (refine Qw (Qx fun K hK => ?_); refine Qf 0 rfl rfl rfl rfl rfl rfl rfl ?_; refine Qf 1 rfl rfl rfl rfl rfl rfl rfl ?_; refine Qy rfl rfl rfl ?_; refine Qv (hK _ _ (Qq (Qw ?_))); clear hK K; refine Qx (fun K hK => ?_); refine Qu rfl rfl rfl (by with_reducible first | exact fK0 | exact fK1 | exact fK2 | exact fK3 | exact fK4 | exact fK5 | exact fK6 | exact fE0 | exact fE1 | exact fE2 | exact fE3 | exact fA0 | exact fD0 | exact fD1) rfl ?_; refine QQ rfl rfl rfl rfl rfl (by with_reducible first | exact lInt | exact QU | exact QW | exact QY | exact lIDs) rfl ?_; refine Qu rfl rfl rfl (by with_reducible first | exact fK0 | exact fK1 | exact fK2 | exact fK3 | exact fK4 | exact fK5 | exact fK6 | exact fE0 | exact fE1 | exact fE2 | exact fE3 | exact fA0 | exact fD0 | exact fD1) rfl ?_; refine QQ rfl rfl rfl rfl rfl (by with_reducible first | exact lInt | exact QU | exact QW | exact QY | exact lIDs) rfl ?_)
    refine Q3 goEqual hA rfl rfl rfl rfl ?_
    (refine Qz rfl rfl rfl ?_; refine Qj rfl rfl rfl ?_; refine Qj rfl rfl rfl ?_; refine Qj rfl rfl rfl ?_; refine Qj rfl rfl rfl ?_; refine Qj rfl rfl rfl ?_; refine Q2 rfl rfl rfl rfl ?_; refine Qy rfl rfl rfl ?_; refine Qv (hK _ _ (Qq (Q0 ?_))); clear hK K)
    refine Q1 [_] rfl (QJ rfl QX) (by rw [Bool.false_and]; rfl) rfl
def vv (g m : List Cl) : Bool := ascB g && (ascB m && (!g.any badB && (!m.any badB && decide ((wo g m).length = g.length))))
set_option maxHeartbeats 8000000 in
theorem Vvalid_gen (g m : List Cl) (hg : g.length ≤ 1000) (hm : m.length ≤ 1000) : Ok Tryz.prog 45 [dfC g m] (boolC (vv g m)) := by
  have hW := Xp g m (by omega) (by omega)
  have hA := ascending_gen g hg
  have hB := ascending_gen m hm
  have hC := ContF_gen g hg
  have hD := ContF_gen m hm
  unfold vv
  generalize wo g m = x at *
  refine Ok.enter Tryz.func45 rfl _ Tryz.ntmps45 rfl ?_
  intro S w
  generalize ascB g = b1 at *
  generalize ascB m = b2 at *
  generalize g.any badB = b3 at *
  generalize m.any badB = b4 at *
  cases b1 with
  | false =>
    (refine Qw (Qx fun K hK => ?_); refine Qf 0 rfl rfl rfl rfl rfl rfl rfl ?_; refine Qy rfl rfl rfl ?_; refine Qv (hK _ _ (Qq (Qw ?_))); clear hK K; refine Qx (fun K hK => ?_); refine Qy rfl rfl rfl ?_; refine Qv (hK _ _ (Qq (Qw ?_))); clear hK K)
    refine Qp (by with_reducible exact mixed) 35 (.p 0 (.f 1 (.m 2 (.p 3 (.p 4 (.f 5 (.m 6 (.p 7 (.p 8 (.p 9 (.p 11 (.f 10 (.m 12 (.p 13 (.p 14 (.p 15 (.p 16 (.p 18 (.f 17 (.m 19 (.p 20 (.p 21 (.p 22 (.p 23 (.p 25 (.p 29 (.f 24 (.f 26 (.f 30 (.p 31 (.m 27 (.p 28 (.p 32 (.p 33 (.p 34 .done))))))))))))))))))))))))))))))))))) (by kernel_rfl) (fun K hK => ?_)
    (refine Qu rfl rfl rfl (by with_reducible first | exact fK0 | exact fK1 | exact fK2 | exact fK3 | exact fK4 | exact fK5 | exact fK6 | exact fE0 | exact fE1 | exact fE2 | exact fE3 | exact fA0 | exact fD0 | exact fD1) rfl ?_; refine QQ rfl rfl rfl rfl rfl (by with_reducible first | exact lInt | exact QU | exact QW | exact QY | exact lIDs) rfl ?_)
    refine Q3 Xa hA rfl rfl rfl rfl ?_
    (refine Qz rfl rfl rfl ?_; refine Qj rfl rfl rfl ?_; refine Qj rfl rfl rfl ?_; refine Qj rfl rfl rfl ?_; refine Q2 rfl rfl rfl rfl ?_; refine Qz rfl rfl rfl ?_; refine Qj rfl rfl rfl ?_; refine Qj rfl rfl rfl ?_; refine Qj rfl rfl rfl ?_; refine Qj rfl rfl rfl ?_; refine Qj rfl rfl rfl ?_; refine Q2 rfl rfl rfl rfl ?_; refine Qz rfl rfl rfl ?_; refine Qj rfl rfl rfl ?_; refine Qj rfl rfl rfl ?_; refine Qj rfl rfl rfl ?_; refine Qj rfl rfl rfl ?_; refine Qj rfl rfl rfl ?_; refine Q2 rfl rfl rfl rfl ?_; refine Qz rfl rfl rfl ?_; refine Qj rfl rfl rfl ?_; refine Qj rfl rfl rfl ?_; refine Qj rfl rfl rfl ?_; refine Qj rfl rfl rfl ?_; refine Qj rfl rfl rfl ?_; refine Qj rfl rfl rfl ?_; refine Qj rfl rfl rfl ?_; refine Qj rfl rfl rfl ?_; refine Qj rfl rfl rfl ?_; refine Qj rfl rfl rfl ?_; refine Q2 rfl rfl rfl rfl ?_; refine Qy rfl rfl rfl ?_; refine Qv (hK _ _ (Qq (Q0 ?_))); clear hK K)
    refine Q1 [_] rfl (QJ rfl QX) (by rw [Bool.false_and]; rfl) rfl
  | true =>
  cases b2 with
  | false =>
    (refine Qw (Qx fun K hK => ?_); refine Qf 0 rfl rfl rfl rfl rfl rfl rfl ?_; refine Qy rfl rfl rfl ?_; refine Qv (hK _ _ (Qq (Qw ?_))); clear hK K; refine Qx (fun K hK => ?_); refine Qy rfl rfl rfl ?_; refine Qv (hK _ _ (Qq (Qw ?_))); clear hK K)
    refine Qp (by with_reducible exact mixed) 35 (.p 0 (.f 1 (.m 2 (.p 3 (.p 4 (.f 5 (.m 6 (.p 7 (.p 8 (.p 9 (.p 11 (.f 10 (.m 12 (.p 13 (.p 14 (.p 15 (.p 16 (.p 18 (.f 17 (.m 19 (.p 20 (.p 21 (.p 22 (.p 23 (.p 25 (.p 29 (.f 24 (.f 26 (.f 30 (.p 31 (.m 27 (.p 28 (.p 32 (.p 33 (.p 34 .done))))))))))))))))))))))))))))))))))) (by kernel_rfl) (fun K hK => ?_)
    (refine Qu rfl rfl rfl (by with_reducible first | exact fK0 | exact fK1 | exact fK2 | exact fK3 | exact fK4 | exact fK5 | exact fK6 | exact fE0 | exact fE1 | exact fE2 | exact fE3 | exact fA0 | exact fD0 | exact fD1) rfl ?_; refine QQ rfl rfl rfl rfl rfl (by with_reducible first | exact lInt | exact QU | exact QW | exact QY | exact lIDs) rfl ?_)
    refine Q3 Xa hA rfl rfl rfl rfl ?_
    (refine Qz rfl rfl rfl ?_; refine Qu rfl rfl rfl (by with_reducible first | exact fK0 | exact fK1 | exact fK2 | exact fK3 | exact fK4 | exact fK5 | exact fK6 | exact fE0 | exact fE1 | exact fE2 | exact fE3 | exact fA0 | exact fD0 | exact fD1) rfl ?_; refine QQ rfl rfl rfl rfl rfl (by with_reducible first | exact lInt | exact QU | exact QW | exact QY | exact lIDs) rfl ?_)
    refine Q3 Xa hB rfl rfl rfl rfl ?_
    (refine QZ rfl rfl rfl rfl ?_; refine Qz rfl rfl rfl ?_; refine Qj rfl rfl rfl ?_; refine Qj rfl rfl rfl ?_; refine Qj rfl rfl rfl ?_; refine Qj rfl rfl rfl ?_; refine Qj rfl rfl rfl ?_; refine Q2 rfl rfl rfl rfl ?_; refine Qz rfl rfl rfl ?_; refine Qj rfl rfl rfl ?_; refine Qj rfl rfl rfl ?_; refine Qj rfl rfl rfl ?_; refine Qj rfl rfl rfl ?_; refine Qj rfl rfl rfl ?_; refine Q2 rfl rfl rfl rfl ?_; refine Qz rfl rfl rfl ?_; refine Qj rfl rfl rfl ?_; refine Qj rfl rfl rfl ?_; refine Qj rfl rfl rfl ?_; refine Qj rfl rfl rfl ?_; refine Qj rfl rfl rfl ?_; refine Qj rfl rfl rfl ?_; refine Qj rfl rfl rfl ?_; refine Qj rfl rfl rfl ?_; refine Qj rfl rfl rfl ?_; refine Qj rfl rfl rfl ?_; refine Q2 rfl rfl rfl rfl ?_; refine Qy rfl rfl rfl ?_; refine Qv (hK _ _ (Qq (Q0 ?_))); clear hK K)
    refine Q1 [_] rfl (QJ rfl QX) (by rw [Bool.false_and]; rfl) rfl
  | true =>
  cases b3 with
  | true =>
    (refine Qw (Qx fun K hK => ?_); refine Qf 0 rfl rfl rfl rfl rfl rfl rfl ?_; refine Qy rfl rfl rfl ?_; refine Qv (hK _ _ (Qq (Qw ?_))); clear hK K; refine Qx (fun K hK => ?_); refine Qy rfl rfl rfl ?_; refine Qv (hK _ _ (Qq (Qw ?_))); clear hK K)
    refine Qp (by with_reducible exact mixed) 35 (.p 0 (.f 1 (.m 2 (.p 3 (.p 4 (.f 5 (.m 6 (.p 7 (.p 8 (.p 9 (.p 11 (.f 10 (.m 12 (.p 13 (.p 14 (.p 15 (.p 16 (.p 18 (.f 17 (.m 19 (.p 20 (.p 21 (.p 22 (.p 23 (.p 25 (.p 29 (.f 24 (.f 26 (.f 30 (.p 31 (.m 27 (.p 28 (.p 32 (.p 33 (.p 34 .done))))))))))))))))))))))))))))))))))) (by kernel_rfl) (fun K hK => ?_)
    (refine Qu rfl rfl rfl (by with_reducible first | exact fK0 | exact fK1 | exact fK2 | exact fK3 | exact fK4 | exact fK5 | exact fK6 | exact fE0 | exact fE1 | exact fE2 | exact fE3 | exact fA0 | exact fD0 | exact fD1) rfl ?_; refine QQ rfl rfl rfl rfl rfl (by with_reducible first | exact lInt | exact QU | exact QW | exact QY | exact lIDs) rfl ?_)
    refine Q3 Xa hA rfl rfl rfl rfl ?_
    (refine Qz rfl rfl rfl ?_; refine Qu rfl rfl rfl (by with_reducible first | exact fK0 | exact fK1 | exact fK2 | exact fK3 | exact fK4 | exact fK5 | exact fK6 | exact fE0 | exact fE1 | exact fE2 | exact fE3 | exact fA0 | exact fD0 | exact fD1) rfl ?_; refine QQ rfl rfl rfl rfl rfl (by with_reducible first | exact lInt | exact QU | exact QW | exact QY | exact lIDs) rfl ?_)
    refine Q3 Xa hB rfl rfl rfl rfl ?_
    (refine QZ rfl rfl rfl rfl ?_; refine Qz rfl rfl rfl ?_; refine Qu rfl rfl rfl (by with_reducible first | exact fK0 | exact fK1 | exact fK2 | exact fK3 | exact fK4 | exact fK5 | exact fK6 | exact fE0 | exact fE1 | exact fE2 | exact fE3 | exact fA0 | exact fD0 | exact fD1) rfl ?_; refine Qz rfl rfl rfl ?_; refine QQ rfl rfl rfl rfl rfl (by with_reducible first | exact lInt | exact QU | exact QW | exact QY | exact lIDs) rfl ?_)
    refine Q3 goContF hC rfl rfl rfl rfl ?_
    (refine Qb rfl rfl rfl ?_; refine QZ rfl rfl rfl rfl ?_; refine Qz rfl rfl rfl ?_; refine Qj rfl rfl rfl ?_; refine Qj rfl rfl rfl ?_; refine Qj rfl rfl rfl ?_; refine Qj rfl rfl rfl ?_; refine Qj rfl rfl rfl ?_; refine Q2 rfl rfl rfl rfl ?_; refine Qz rfl rfl rfl ?_; refine Qj rfl rfl rfl ?_; refine Qj rfl rfl rfl ?_; refine Qj rfl rfl rfl ?_; refine Qj rfl rfl rfl ?_; refine Qj rfl rfl rfl ?_; refine Qj rfl rfl rfl ?_; refine Qj rfl rfl rfl ?_; refine Qj rfl rfl rfl ?_; refine Qj rfl rfl rfl ?_; refine Qj rfl rfl rfl ?_; refine Q2 rfl rfl rfl rfl ?_; refine Qy rfl rfl rfl ?_; refine Qv (hK _ _ (Qq (Q0 ?_))); clear hK K)
    refine Q1 [_] rfl (QJ rfl QX) (by rw [Bool.not_true, Bool.false_and]; rfl) rfl
  | false =>
  cases b4 with
  | true =>
    (refine Qw (Qx fun K hK => ?_); refine Qf 0 rfl rfl rfl rfl rfl rfl rfl ?_; refine Qy rfl rfl rfl ?_; refine Qv (hK _ _ (Qq (Qw ?_))); clear hK K; refine Qx (fun K hK => ?_); refine Qy rfl rfl rfl ?_; refine Qv (hK _ _ (Qq (Qw ?_))); clear hK K)
    refine Qp (by with_reducible exact mixed) 35 (.p 0 (.f 1 (.m 2 (.p 3 (.p 4 (.f 5 (.m 6 (.p 7 (.p 8 (.p 9 (.p 11 (.f 10 (.m 12 (.p 13 (.p 14 (.p 15 (.p 16 (.p 18 (.f 17 (.m 19 (.p 20 (.p 21 (.p 22 (.p 23 (.p 25 (.p 29 (.f 24 (.f 26 (.f 30 (.p 31 (.m 27 (.p 28 (.p 32 (.p 33 (.p 34 .done))))))))))))))))))))))))))))))))))) (by kernel_rfl) (fun K hK => ?_)
    (refine Qu rfl rfl rfl (by with_reducible first | exact fK0 | exact fK1 | exact fK2 | exact fK3 | exact fK4 | exact fK5 | exact fK6 | exact fE0 | exact fE1 | exact fE2 | exact fE3 | exact fA0 | exact fD0 | exact fD1) rfl ?_; refine QQ rfl rfl rfl rfl rfl (by with_reducible first | exact lInt | exact QU | exact QW | exact QY | exact lIDs) rfl ?_)
    refine Q3 Xa hA rfl rfl rfl rfl ?_
    (refine Qz rfl rfl rfl ?_; refine Qu rfl rfl rfl (by with_reducible first | exact fK0 | exact fK1 | exact fK2 | exact fK3 | exact fK4 | exact fK5 | exact fK6 | exact fE0 | exact fE1 | exact fE2 | exact fE3 | exact fA0 | exact fD0 | exact fD1) rfl ?_; refine QQ rfl rfl rfl rfl rfl (by with_reducible first | exact lInt | exact QU | exact QW | exact QY | exact lIDs) rfl ?_)
    refine Q3 Xa hB rfl rfl rfl rfl ?_
    (refine QZ rfl rfl rfl rfl ?_; refine Qz rfl rfl rfl ?_; refine Qu rfl rfl rfl (by with_reducible first | exact fK0 | exact fK1 | exact fK2 | exact fK3 | exact fK4 | exact fK5 | exact fK6 | exact fE0 | exact fE1 | exact fE2 | exact fE3 | exact fA0 | exact fD0 | exact fD1) rfl ?_; refine Qz rfl rfl rfl ?_; refine QQ rfl rfl rfl rfl rfl (by with_reducible first | exact lInt | exact QU | exact QW | exact QY | exact lIDs) rfl ?_)
    refine Q3 goContF hC rfl rfl rfl rfl ?_
    (refine Qb rfl rfl rfl ?_; refine QZ rfl rfl rfl rfl ?_; refine Qz rfl rfl rfl ?_; refine Qu rfl rfl rfl (by with_reducible first | exact fK0 | exact fK1 | exact fK2 | exact fK3 | exact fK4 | exact fK5 | exact fK6 | exact fE0 | exact fE1 | exact fE2 | exact fE3 | exact fA0 | exact fD0 | exact fD1) rfl ?_; refine Qz rfl rfl rfl ?_; refine QQ rfl rfl rfl rfl rfl (by with_reducible first | exact lInt | exact QU | exact QW | exact QY | exact lIDs) rfl ?_)
    refine Q3 goContF hD rfl rfl rfl rfl ?_
    (refine Qb rfl rfl rfl ?_; refine QZ rfl rfl rfl rfl ?_; refine Qz rfl rfl rfl ?_; refine Qj rfl rfl rfl ?_; refine Qj rfl rfl rfl ?_; refine Qj rfl rfl rfl ?_; refine Qj rfl rfl rfl ?_; refine Qj rfl rfl rfl ?_; refine Qj rfl rfl rfl ?_; refine Qj rfl rfl rfl ?_; refine Qj rfl rfl rfl ?_; refine Qj rfl rfl rfl ?_; refine Qj rfl rfl rfl ?_; refine Q2 rfl rfl rfl rfl ?_; refine Qy rfl rfl rfl ?_; refine Qv (hK _ _ (Qq (Q0 ?_))); clear hK K)
    refine Q1 [_] rfl (QJ rfl QX) (by rw [Bool.not_true, Bool.false_and]; rfl) rfl
  | false =>
    (refine Qw (Qx fun K hK => ?_); refine Qf 0 rfl rfl rfl rfl rfl rfl rfl ?_; refine Qy rfl rfl rfl ?_; refine Qv (hK _ _ (Qq (Qw ?_))); clear hK K; refine Qx (fun K hK => ?_); refine Qy rfl rfl rfl ?_; refine Qv (hK _ _ (Qq (Qw ?_))); clear hK K)
    refine Qp (by with_reducible exact mixed) 35 (.p 0 (.f 1 (.m 2 (.p 3 (.p 4 (.f 5 (.m 6 (.p 7 (.p 8 (.p 9 (.p 11 (.f 10 (.m 12 (.p 13 (.p 14 (.p 15 (.p 16 (.p 18 (.f 17 (.m 19 (.p 20 (.p 21 (.p 22 (.p 23 (.p 25 (.p 29 (.f 24 (.f 26 (.f 30 (.p 31 (.m 27 (.p 28 (.p 32 (.p 33 (.p 34 .done))))))))))))))))))))))))))))))))))) (by kernel_rfl) (fun K hK => ?_)
    (refine Qu rfl rfl rfl (by with_reducible first | exact fK0 | exact fK1 | exact fK2 | exact fK3 | exact fK4 | exact fK5 | exact fK6 | exact fE0 | exact fE1 | exact fE2 | exact fE3 | exact fA0 | exact fD0 | exact fD1) rfl ?_; refine QQ rfl rfl rfl rfl rfl (by with_reducible first | exact lInt | exact QU | exact QW | exact QY | exact lIDs) rfl ?_)
    refine Q3 Xa hA rfl rfl rfl rfl ?_
    (refine Qz rfl rfl rfl ?_; refine Qu rfl rfl rfl (by with_reducible first | exact fK0 | exact fK1 | exact fK2 | exact fK3 | exact fK4 | exact fK5 | exact fK6 | exact fE0 | exact fE1 | exact fE2 | exact fE3 | exact fA0 | exact fD0 | exact fD1) rfl ?_; refine QQ rfl rfl rfl rfl rfl (by with_reducible first | exact lInt | exact QU | exact QW | exact QY | exact lIDs) rfl ?_)
    refine Q3 Xa hB rfl rfl rfl rfl ?_
    (refine QZ rfl rfl rfl rfl ?_; refine Qz rfl rfl rfl ?_; refine Qu rfl rfl rfl (by with_reducible first | exact fK0 | exact fK1 | exact fK2 | exact fK3 | exact fK4 | exact fK5 | exact fK6 | exact fE0 | exact fE1 | exact fE2 | exact fE3 | exact fA0 | exact fD0 | exact fD1) rfl ?_; refine Qz rfl rfl rfl ?_; refine QQ rfl rfl rfl rfl rfl (by with_reducible first | exact lInt | exact QU | exact QW | exact QY | exact lIDs) rfl ?_)
    refine Q3 goContF hC rfl rfl rfl rfl ?_
    (refine Qb rfl rfl rfl ?_; refine QZ rfl rfl rfl rfl ?_; refine Qz rfl rfl rfl ?_; refine Qu rfl rfl rfl (by with_reducible first | exact fK0 | exact fK1 | exact fK2 | exact fK3 | exact fK4 | exact fK5 | exact fK6 | exact fE0 | exact fE1 | exact fE2 | exact fE3 | exact fA0 | exact fD0 | exact fD1) rfl ?_; refine Qz rfl rfl rfl ?_; refine QQ rfl rfl rfl rfl rfl (by with_reducible first | exact lInt | exact QU | exact QW | exact QY | exact lIDs) rfl ?_)
    refine Q3 goContF hD rfl rfl rfl rfl ?_
    (refine Qb rfl rfl rfl ?_; refine QZ rfl rfl rfl rfl ?_; refine Qz rfl rfl rfl ?_; refine Qu rfl rfl rfl (by with_reducible first | exact fK0 | exact fK1 | exact fK2 | exact fK3 | exact fK4 | exact fK5 | exact fK6 | exact fE0 | exact fE1 | exact fE2 | exact fE3 | exact fA0 | exact fD0 | exact fD1) rfl ?_; refine Qu rfl rfl rfl (by with_reducible first | exact fK0 | exact fK1 | exact fK2 | exact fK3 | exact fK4 | exact fK5 | exact fK6 | exact fE0 | exact fE1 | exact fE2 | exact fE3 | exact fA0 | exact fD0 | exact fD1) rfl ?_; refine Qu rfl rfl rfl (by with_reducible first | exact fK0 | exact fK1 | exact fK2 | exact fK3 | exact fK4 | exact fK5 | exact fK6 | exact fE0 | exact fE1 | exact fE2 | exact fE3 | exact fA0 | exact fD0 | exact fD1) rfl ?_; refine QQ rfl rfl rfl rfl rfl (by with_reducible first | exact lInt | exact QU | exact QW | exact QY | exact lIDs) rfl ?_; refine QQ rfl rfl rfl rfl rfl (by with_reducible first | exact lInt | exact QU | exact QW | exact QY | exact lIDs) rfl ?_; refine QQ rfl rfl rfl rfl rfl (by with_reducible first | exact lInt | exact QU | exact QW | exact QY | exact lIDs) rfl ?_; refine Qd rfl rfl (by with_reducible first | exact sClaims.und | exact sInts.und | exact sLists.und) (List.length_map ..) rfl ?_)
    refine Q3 Xt hW rfl rfl rfl rfl ?_
    (refine Qd rfl rfl (by with_reducible first | exact sClaims.und | exact sInts.und | exact sLists.und) (List.length_map ..) rfl ?_; refine Qk ieql rfl rfl rfl rfl ?_; refine QZ rfl rfl rfl rfl ?_; refine Qy rfl rfl rfl ?_; refine Qv (hK _ _ (Qq (Q0 ?_))); clear hK K)
    refine Q1 [_] rfl (QJ rfl QX) (by simp only [Bool.true_and, Bool.not_false]; rw [show decide (x.length = g.length) = decide ((x.length : Int) = g.length) from decide_eq_decide.2 (by omega)]; rfl) rfl
def apV (c g m : List Cl) : List Cl × Int := if ascB c = true ∧ vv g m = true then (if (wo c g).length + g.length = c.length then (if (wo m c).length = m.length then (sd cmpC (wo c g ++ m), 0) else ([], 9)) else ([], 8)) else ([], 1)
set_option maxHeartbeats 8000000 in
theorem Apply_gen (c g m : List Cl) (hc : c.length ≤ 100) (hg : g.length ≤ 100) (hm : m.length ≤ 100) : Ok Tryz.prog 18 [clsC c, dfC g m] (.fr (tupT [clsC (apV c g m).1, intC (apV c g m).2])) := by
  have hW1 := Xp c g (by omega) (by omega)
  have hW2 := Xp m c (by omega) (by omega)
  have l1 := wo_len c g
  have hC := Concat_ok [wo c g, m] (by simp) (by simp; omega)
  rw [show [wo c g, m].flatten = wo c g ++ m by simp] at hC
  have hS := ZY (wo c g ++ m) (by simp; omega)
  have hA := ascending_gen c (by omega)
  have hV := Vvalid_gen g m (by omega) (by omega)
  unfold apV
  generalize wo c g = rest at *
  generalize wo m c = w2 at *
  refine Ok.enter Tryz.func18 rfl _ Tryz.ntmps18 rfl ?_
  intro S w
  generalize ascB c = b1 at *
  generalize vv g m = b2 at *
  cases b1 with
  | false =>
    rw [if_neg (by simp)]
    (refine Qw (Qx fun K hK => ?_); refine Qf 0 rfl rfl rfl rfl rfl rfl rfl ?_; refine Qy rfl rfl rfl ?_; refine Qy rfl rfl rfl ?_; refine Qv (hK _ _ (Qq (Qw (Qw ?_)))); clear hK K; refine Qx (fun K hK => ?_); refine Qz rfl rfl rfl ?_)
    refine Q3 Xa hA rfl rfl rfl rfl ?_
    (refine Qb rfl rfl rfl ?_; refine Qz rfl rfl rfl ?_; refine Qj rfl rfl rfl ?_; refine Qj rfl rfl rfl ?_; refine Qj rfl rfl rfl ?_; refine QZ rfl rfl rfl rfl ?_; refine Qv (hK _ _ (Qq (Qc rfl (Qw ?_)))); clear hK K; refine Qx (fun K hK => ?_); refine Qy rfl rfl rfl ?_; refine Qy rfl rfl rfl ?_; refine Qv (hK _ _ (Qq (Q0 (QV ?_)))); clear hK K)
    refine Q1 [_, _] rfl (Z3 7 rfl (QJ rfl QX)) rfl rfl
  | true =>
  cases b2 with
  | false =>
    rw [if_neg (by simp)]
    (refine Qw (Qx fun K hK => ?_); refine Qf 0 rfl rfl rfl rfl rfl rfl rfl ?_; refine Qy rfl rfl rfl ?_; refine Qy rfl rfl rfl ?_; refine Qv (hK _ _ (Qq (Qw (Qw ?_)))); clear hK K; refine Qx (fun K hK => ?_); refine Qz rfl rfl rfl ?_)
    refine Q3 Xa hA rfl rfl rfl rfl ?_
    (refine Qb rfl rfl rfl ?_; refine Qz rfl rfl rfl ?_; refine Qm (n := 2) rfl rfl rfl rfl rfl (by with_reducible exact Zz) rfl ?_)
    refine Q3 goVvalid hV rfl rfl rfl rfl ?_
    (refine Qb rfl rfl rfl ?_; refine Q2 rfl rfl rfl rfl ?_; refine Qv (hK _ _ (Qq (Qc rfl (Qw ?_)))); clear hK K; refine Qx (fun K hK => ?_); refine Qy rfl rfl rfl ?_; refine Qy rfl rfl rfl ?_; refine Qv (hK _ _ (Qq (Q0 (QV ?_)))); clear hK K)
    refine Q1 [_, _] rfl (Z3 7 rfl (QJ rfl QX)) rfl rfl
  | true =>
    rw [if_pos (by simp)]
    (refine Qw (Qx fun K hK => ?_); refine Qf 0 rfl rfl rfl rfl rfl rfl rfl ?_; refine Qy rfl rfl rfl ?_; refine Qy rfl rfl rfl ?_; refine Qv (hK _ _ (Qq (Qw (Qw ?_)))); clear hK K; refine Qx (fun K hK => ?_); refine Qz rfl rfl rfl ?_)
    refine Q3 Xa hA rfl rfl rfl rfl ?_
    (refine Qb rfl rfl rfl ?_; refine Qz rfl rfl rfl ?_; refine Qm (n := 2) rfl rfl rfl rfl rfl (by with_reducible exact Zz) rfl ?_)
    refine Q3 goVvalid hV rfl rfl rfl rfl ?_
    (refine Qb rfl rfl rfl ?_; refine Q2 rfl rfl rfl rfl ?_; refine Qv (hK _ _ (Qq (Qe rfl (Q5 (Qq (Qw ?_)))))); clear hK K; refine Qx (fun K hK => ?_); refine Qz rfl rfl rfl ?_; refine Qu rfl rfl rfl (by with_reducible first | exact fK0 | exact fK1 | exact fK2 | exact fK3 | exact fK4 | exact fK5 | exact fK6 | exact fE0 | exact fE1 | exact fE2 | exact fE3 | exact fA0 | exact fD0 | exact fD1) rfl ?_; refine QQ rfl rfl rfl rfl rfl (by with_reducible first | exact lInt | exact QU | exact QW | exact QY | exact lIDs) rfl ?_)
    refine Q3 Xt hW1 rfl rfl rfl rfl ?_
    (refine Qy rfl rfl rfl ?_; refine Qv (hK _ _ (Qq (Qw (Qw ?_)))); clear hK K; refine Qx (fun K hK => ?_); refine Qz rfl rfl rfl ?_; refine Qd rfl rfl (by with_reducible first | exact sClaims.und | exact sInts.und | exact sLists.und) (List.length_map ..) rfl ?_; refine Qu rfl rfl rfl (by with_reducible first | exact fK0 | exact fK1 | exact fK2 | exact fK3 | exact fK4 | exact fK5 | exact fK6 | exact fE0 | exact fE1 | exact fE2 | exact fE3 | exact fA0 | exact fD0 | exact fD1) rfl ?_; refine QQ rfl rfl rfl rfl rfl (by with_reducible first | exact lInt | exact QU | exact QW | exact QY | exact lIDs) rfl ?_; refine Qd rfl rfl (by with_reducible first | exact sClaims.und | exact sInts.und | exact sLists.und) (List.length_map ..) rfl ?_; refine Qk (iadd (by omega) (by omega)) rfl rfl rfl rfl ?_; refine Qz rfl rfl rfl ?_; refine Qd rfl rfl (by with_reducible first | exact sClaims.und | exact sInts.und | exact sLists.und) (List.length_map ..) rfl ?_; refine Qk ineq rfl rfl rfl rfl ?_; refine Qv (hK _ _ (Qq ?_)); clear hK K)
    refine Q7 rfl (fun h => ?_) (fun h => ?_)
    · rw [if_neg (by omega)]
      (refine Qw (Qx fun K hK => ?_); refine Qy rfl rfl rfl ?_; refine Qy rfl rfl rfl ?_; refine Qv (hK _ _ (Qq (Q0 (QV ?_)))); clear hK K)
      refine Q1 [_, _] rfl (Z3 7 rfl (QJ rfl QX)) rfl rfl
    · rw [if_pos (by omega)]
      (refine Q5 (Qq (Qw (Qw ?_))))
      refine Qp (by with_reducible exact mixed) 9 (.p 0 (.p 2 (.p 5 (.f 1 (.f 6 (.p 7 (.m 3 (.p 4 (.p 8 .done))))))))) (by kernel_rfl) (fun K hK => ?_)
      (refine Qu rfl rfl rfl (by with_reducible first | exact fK0 | exact fK1 | exact fK2 | exact fK3 | exact fK4 | exact fK5 | exact fK6 | exact fE0 | exact fE1 | exact fE2 | exact fE3 | exact fA0 | exact fD0 | exact fD1) rfl ?_; refine Qz rfl rfl rfl ?_; refine Qu rfl rfl rfl (by with_reducible first | exact fK0 | exact fK1 | exact fK2 | exact fK3 | exact fK4 | exact fK5 | exact fK6 | exact fE0 | exact fE1 | exact fE2 | exact fE3 | exact fA0 | exact fD0 | exact fD1) rfl ?_; refine QQ rfl rfl rfl rfl rfl (by with_reducible first | exact lInt | exact QU | exact QW | exact QY | exact lIDs) rfl ?_; refine QQ rfl rfl rfl rfl rfl (by with_reducible first | exact lInt | exact QU | exact QW | exact QY | exact lIDs) rfl ?_; refine Qd rfl rfl (by with_reducible first | exact sClaims.und | exact sInts.und | exact sLists.und) (List.length_map ..) rfl ?_)
      refine Q3 Xt hW2 rfl rfl rfl rfl ?_
      (refine Qd rfl rfl (by with_reducible first | exact sClaims.und | exact sInts.und | exact sLists.und) (List.length_map ..) rfl ?_; refine Qk ineq rfl rfl rfl rfl ?_; refine Qv (hK _ _ (Qq ?_)); clear hK K)
      refine Q7 rfl (fun h2 => ?_) (fun h2 => ?_)
      · rw [if_neg (by omega)]
        (refine Qw (Qx fun K hK => ?_); refine Qy rfl rfl rfl ?_; refine Qy rfl rfl rfl ?_; refine Qv (hK _ _ (Qq (Q0 (QV ?_)))); clear hK K)
        refine Q1 [_, _] rfl (Z3 7 rfl (QJ rfl QX)) rfl rfl
      · rw [if_pos (by omega)]
        (refine Q5 (Qq (Qw (Qx fun K hK => ?_))); refine Qz rfl rfl rfl ?_; refine Qu rfl rfl rfl (by with_reducible first | exact fK0 | exact fK1 | exact fK2 | exact fK3 | exact fK4 | exact fK5 | exact fK6 | exact fE0 | exact fE1 | exact fE2 | exact fE3 | exact fA0 | exact fD0 | exact fD1) rfl ?_; refine QQ rfl rfl rfl rfl rfl (by with_reducible first | exact lInt | exact QU | exact QW | exact QY | exact lIDs) rfl ?_)
        refine Za (m := 2) (n := 1) (cs := [clsC rest, clsC m]) rfl rfl (by with_reducible exact sLists) (.one rfl rfl rfl rfl (.one rfl rfl rfl rfl .nil)) (by decide) rfl ?_
        refine Q3 goConcat hC rfl rfl rfl rfl ?_
        refine Q3 Z7 hS rfl rfl rfl rfl ?_
        (refine Qy rfl rfl rfl ?_; refine Qy rfl rfl rfl ?_; refine Qv (hK _ _ (Qq (Q0 ?_))); clear hK K)
        refine Q1 [_, _] rfl (QJ rfl (QJ rfl QX)) rfl rfl
def joV (g k h c : List Cl) : List Cl := sd cmpC (wo (sd cmpC g) (sd cmpC k) ++ wo (sd cmpC h) (sd cmpC c))
set_option maxHeartbeats 8000000 in
theorem Join_gen (g c h k : List Cl) (lg : g.length ≤ 100) (lc : c.length ≤ 100) (lh : h.length ≤ 100) (lk : k.length ≤ 100) :
    Ok Tryz.prog 23 [dfC g c, dfC h k] (dfC (joV g k h c) (joV c h k g)) := by
  have S1 := ZY g (by omega)
  have S2 := ZY c (by omega)
  have S3 := ZY h (by omega)
  have S4 := ZY k (by omega)
  have e1 := sd_len cmpC g
  have e2 := sd_len cmpC c
  have e3 := sd_len cmpC h
  have e4 := sd_len cmpC k
  unfold joV
  generalize sd cmpC g = sg at *
  generalize sd cmpC c = sc at *
  generalize sd cmpC h = sh at *
  generalize sd cmpC k = sk at *
  have W1 := Xp sg sk (by omega) (by omega)
  have W2 := Xp sh sc (by omega) (by omega)
  have W3 := Xp sc sh (by omega) (by omega)
  have W4 := Xp sk sg (by omega) (by omega)
  have f1 := wo_len sg sk
  have f2 := wo_len sh sc
  have f3 := wo_len sc sh
  have f4 := wo_len sk sg
  generalize wo sg sk = p at *
  generalize wo sh sc = q at *
  generalize wo sc sh = u at *
  generalize wo sk sg = v at *
  have C1 := Concat_ok [p, q] (by simp) (by simp; omega)
  have C2 := Concat_ok [u, v] (by simp) (by simp; omega)
  rw [show [p, q].flatten = p ++ q by simp] at C1
  rw [show [u, v].flatten = u ++ v by simp] at C2
  have T1 := ZY (p ++ q) (by simp; omega)
  have T2 := ZY (u ++ v) (by simp; omega)
  clear e1 e2 e3 e4 f1 f2 f3 f4
  refine Ok.enter Tryz.func23 rfl _ Tryz.ntmps23 rfl ?_
  intro S w
  (refine Qw (Qx fun K hK => ?_); refine Qf 0 rfl rfl rfl rfl rfl rfl rfl ?_; refine Qf 1 rfl rfl rfl rfl rfl rfl rfl ?_; refine Qo 2 rfl rfl (by with_reducible exact zvDiff) rfl rfl rfl ?_; refine Qv (hK _ _ (Qq (Qw ?_))); clear hK K)
  refine Qp (by with_reducible exact mixed) 16 (.p 0 (.p 3 (.p 6 (.p 9 (.f 1 (.f 4 (.f 7 (.f 10 (.m 2 (.m 5 (.m 8 (.m 11 (.p 12 (.p 13 (.p 14 (.p 15 .done)))))))))))))))) (by kernel_rfl) (fun K hK => ?_)
  (refine Qu rfl rfl rfl (by with_reducible first | exact fK0 | exact fK1 | exact fK2 | exact fK3 | exact fK4 | exact fK5 | exact fK6 | exact fE0 | exact fE1 | exact fE2 | exact fE3 | exact fA0 | exact fD0 | exact fD1) rfl ?_; refine Qu rfl rfl rfl (by with_reducible first | exact fK0 | exact fK1 | exact fK2 | exact fK3 | exact fK4 | exact fK5 | exact fK6 | exact fE0 | exact fE1 | exact fE2 | exact fE3 | exact fA0 | exact fD0 | exact fD1) rfl ?_; refine Qu rfl rfl rfl (by with_reducible first | exact fK0 | exact fK1 | exact fK2 | exact fK3 | exact fK4 | exact fK5 | exact fK6 | exact fE0 | exact fE1 | exact fE2 | exact fE3 | exact fA0 | exact fD0 | exact fD1) rfl ?_; refine Qu rfl rfl rfl (by with_reducible first | exact fK0 | exact fK1 | exact fK2 | exact fK3 | exact fK4 | exact fK5 | exact fK6 | exact fE0 | exact fE1 | exact fE2 | exact fE3 | exact fA0 | exact fD0 | exact fD1) rfl ?_; refine QQ rfl rfl rfl rfl rfl (by with_reducible first | exact lInt | exact QU | exact QW | exact QY | exact lIDs) rfl ?_; refine QQ rfl rfl rfl rfl rfl (by with_reducible first | exact lInt | exact QU | exact QW | exact QY | exact lIDs) rfl ?_; refine QQ rfl rfl rfl rfl rfl (by with_reducible first | exact lInt | exact QU | exact QW | exact QY | exact lIDs) rfl ?_; refine QQ rfl rfl rfl rfl rfl (by with_reducible first | exact lInt | exact QU | exact QW | exact QY | exact lIDs) rfl ?_)
  refine Q3 Z7 S1 rfl rfl rfl rfl ?_
  refine Q3 Z7 S2 rfl rfl rfl rfl ?_
  refine Q3 Z7 S3 rfl rfl rfl rfl ?_
  refine Q3 Z7 S4 rfl rfl rfl rfl ?_
  (refine Qy rfl rfl rfl ?_; refine Qy rfl rfl rfl ?_; refine Qy rfl rfl rfl ?_; refine Qy rfl rfl rfl ?_; refine Qv (hK _ _ (Qq (Qw ?_))); clear hK K; refine Qx (fun K hK => ?_); refine Qz rfl rfl rfl ?_; refine Qz rfl rfl rfl ?_)
  refine Q3 Xt W1 rfl rfl rfl rfl ?_
  (refine Qz rfl rfl rfl ?_; refine Qz rfl rfl rfl ?_)
  refine Q3 Xt W2 rfl rfl rfl rfl ?_
  refine Za (m := 2) (n := 1) (cs := [clsC p, clsC q]) rfl rfl (by with_reducible exact sLists) (.one rfl rfl rfl rfl (.one rfl rfl rfl rfl .nil)) (by decide) rfl ?_
  refine Q3 goConcat C1 rfl rfl rfl rfl ?_
  refine Q3 Z7 T1 rfl rfl rfl rfl ?_
  (refine Qz rfl rfl rfl ?_; refine Qz rfl rfl rfl ?_)
  refine Q3 Xt W3 rfl rfl rfl rfl ?_
  (refine Qz rfl rfl rfl ?_; refine Qz rfl rfl rfl ?_)
  refine Q3 Xt W4 rfl rfl rfl rfl ?_
  refine Za (m := 2) (n := 1) (cs := [clsC u, clsC v]) rfl rfl (by with_reducible exact sLists) (.one rfl rfl rfl rfl (.one rfl rfl rfl rfl .nil)) (by decide) rfl ?_
  refine Q3 goConcat C2 rfl rfl rfl rfl ?_
  refine Q3 Z7 T2 rfl rfl rfl rfl ?_
  refine Xq rfl (by with_reducible exact bDiff) rfl (.one rfl rfl rfl rfl (.one rfl rfl rfl rfl .nil)) rfl ?_
  (refine Qr 2 rfl rfl rfl rfl rfl (by with_reducible exact szDiff) rfl rfl ?_; refine Qv (hK _ _ (Qq (Q0 ?_))); clear hK K)
  refine Fin.end [_] rfl (X4 (n := 2) rfl rfl (by with_reducible exact Zz) rfl QX) rfl rfl
end Go.Proofs.YtcelmhkpcdhneaaGreat
namespace Go.Own
open Go.RowKit
variable {X : Ctx} {L : AL} {B : BL} {ops : Array Oper} {K : Act → World → Prop} {r : Pl} {k : Kd}
  {x y z : Operand} {d : Nat} {t t2 t' : TypeId} {pos : String} {af : Array Edge} {g : Option (Nat × Bool)}
theorem Ops.idxV1 {el len : Nat} {zv : Value} {D : TypeDesc} {kk : IntKind} {j : Int} {cs : List CT} {c : CT} (hg : gd ops L g = some true) (hx : ev L x = some (.ct (.fr (aggT cs)))) (hy : ev L y = some (.ct (.ex (.int kk j)))) (hT : ArrT X.P t el len 1 zv) (hE : X.P.underlying el = some D) (hA : isAggD D = false) (h0 : 0 ≤ j) (h1 : j < len) (hc : cs[j.toNat]? = some c) (hn : Nat.blt d X.n = true)
    (h : Ops X ops r ((d, .ct c) :: L) B K) : Ops X ops (.cons ⟨some d, .index t x y, t', pos, af, g⟩ k r) L B K :=
  XQ (s := .ct c) hg rfl hn (fun a ρ w hI => by
    obtain ⟨vs, h2, h3⟩ := hI.ev hx
    obtain ⟨v, h4, h5⟩ := h3.get hc
    refine ⟨v, fun w' _ => ?_, h5⟩
    show (do pure (Next.value (← Instr.index t (a.eval x) (a.eval y))) : Sem Next).run X.P w' = _
    rw [h2, hI.evx hy]
    refine X3 ?_
    simp [Instr.index, asIntOf, run_underlying hT.und, h0, h1, hT.size, part, run_isAgg hE hA, h4]) h
end Go.Own
namespace Go.Proofs.YtcelmhkpcdhneaaGreat
open Go.Own Go.Limbs
attribute [local irreducible] St Ops Go.Own.Fin Ok OkB OkN OkT OkL OkF wpA
theorem posN_F (l : List Cl) (c : Cl) : ∀ k, posN l c k = posF cmpC c0 l c k
  | 0 => rfl
  | k + 1 => by simp only [posN, posF, posN_F l c k]
theorem put_F (l : List Cl) (c : Cl) : put l c = putF cmpC c0 l c := by
  unfold put putF
  rw [posN_F]
  have e : ∀ x : Cl, x = c ↔ cmpC x c = 0 := fun x => ⟨fun h => by rw [h, cmpC_self], cmpC_eq⟩
  simp only [e]
abbrev notIn (o : List Cl) (c : Cl) : Bool := !decide (c ∈ o)
def rwo (a o : List Cl) : List Cl := ordF cmpC c0 (notIn o) a []
def putA (l out : List Cl) : List Cl := ordF cmpC c0 (fun _ => true) l out
theorem rwo_mem {a o : List Cl} (x : Cl) : x ∈ rwo a o ↔ x ∈ a ∧ x ∉ o := by
  rw [rwo, (ordF_spec ordC c0 (notIn o) a [] List.Pairwise.nil).2 x]
  simp
theorem rwo_U {a o : List Cl} (h : ∀ x ∈ a, U x) : ∀ x ∈ rwo a o, U x := fun x hx => h x ((rwo_mem x).1 hx).1
theorem ordF_len (ok : Cl → Bool) : ∀ (l out : List Cl), (ordF cmpC c0 ok l out).length ≤ out.length + l.length
  | [], out => by simp [ordF]
  | c :: l, out => by
    simp only [ordF]
    have h := ordF_len ok l (if ok c then putF cmpC c0 out c else out)
    have h2 := putF_len cmpC c0 out c
    split at h <;> rename_i hc
    · rw [if_pos hc]; simp; omega
    · rw [if_neg hc]; simp; omega
theorem rwo_len (a o : List Cl) : (rwo a o).length ≤ a.length := by have := ordF_len (notIn o) a []; simpa [rwo] using this
theorem gohas : InGo Tryz.prog 49 := InGo.of Tryz.func49 rfl (by decide)
set_option maxHeartbeats 4000000 in
theorem has_ok (l : List Cl) (c : Cl) (hl : l.length ≤ 1000) : Ok Tryz.prog 49 [clsC l, clC c] (boolC (decide (c ∈ l))) := by
  refine Ok.enter Tryz.func49 rfl _ Tryz.ntmps49 rfl ?_
  intro S w
  (refine Qw (Qx fun K hK => ?_); refine Qf 0 rfl rfl rfl rfl rfl rfl rfl ?_; refine Qy rfl rfl rfl ?_; refine Qv (hK _ _ (Qq (Qw (Qw ?_)))); clear hK K; refine Qx (fun K hK => ?_); refine Qy rfl rfl rfl ?_; refine Qv (hK _ _ (Qq (Q4 ?_))); clear hK K)
  refine Qt (α := Nat) (fun i => i ≤ l.length ∧ ∀ j, j < i → l.getD j c0 ≠ c)
    (fun i => [(0, .ct (clsC l)), (3, .own 0), (5, .ct (intC i))]) (fun _ => [(0, .box 62 (clCs c))]) (fun i => l.length - i) 0 ⟨Nat.zero_le _, fun j h => absurd h (Nat.not_lt_zero j)⟩ (by exact QK rfl ⟨rfl, rfl, rfl, trivial⟩) ?_
  rintro i ⟨hi, hv⟩
  dsimp only at hi hv ⊢
  (refine Qw (Qw (Qx fun K hK => ?_)); refine Qz rfl rfl rfl ?_; refine Qz rfl rfl rfl ?_; refine Qd rfl rfl (by with_reducible first | exact sClaims.und | exact sInts.und | exact sLists.und) (List.length_map ..) rfl ?_; refine Qk ilss rfl rfl rfl rfl ?_; refine Qv (hK _ _ (Qq ?_)); clear hK K)
  refine Q7 rfl (fun h => ?_) (fun h => ?_)
  · have e2 : (i : Int).toNat = i := Int.toNat_natCast i
    have hm := Z8 (l := l) (i := i) (by omega)
    (refine Q5 (Qq (Qw (Q4 (Qw ?_)))))
    refine Qp (by with_reducible exact mixed) 6 (.p 0 (.p 1 (.p 2 (.f 3 (.f 4 (.p 5 .done)))))) (by kernel_rfl) (fun K hK => ?_)
    (refine Qz rfl rfl rfl ?_; refine Qz rfl rfl rfl ?_; refine Ql rfl rfl rfl (by with_reducible exact sClaims) (by omega) (Xg (by omega) (by omega)) rfl ?_; refine Qs (n := 7) rfl rfl rfl (by with_reducible exact Xz) rfl rfl ?_; refine Qm (n := 7) rfl rfl rfl rfl rfl (by with_reducible exact Xz) rfl ?_)
    rw [e2]
    refine eqCl _ c rfl rfl rfl rfl rfl ?_
    (refine Qv (hK _ _ (Qq ?_)); clear hK K)
    refine Q7 rfl (fun h4 => ?_) (fun h4 => ?_)
    · have e : decide (c ∈ l) = true := decide_eq_true (h4 ▸ hm)
      (refine Qw (Qx fun K hK => ?_); refine Qy rfl rfl rfl ?_; refine Qv (hK _ _ (Qq (Q0 (Q6 (QV (QV (Q6 (QV ?_)))))))); clear hK K)
      refine Q1 [_] rfl (QJ rfl QX) (by rw [e]; rfl) rfl
    · (refine Q5 (Qq (Qx fun K hK => ?_)); refine Qz rfl rfl rfl ?_; refine Qk (iadd (by omega) (by omega)) rfl rfl rfl rfl ?_; refine Qy rfl rfl rfl ?_; refine Qv (hK _ _ (Qa ?_)); clear hK K)
      refine Qg (i + 1) (by omega) ⟨by omega, fun j hj => ?_⟩ (by exact QK rfl ⟨rfl, rfl, by simp only [Int.natCast_add]; rfl, trivial⟩)
      rcases Nat.lt_or_ge j i with h5 | h5
      · exact hv j h5
      · have : j = i := by omega
        subst this; exact h4
  · have e : decide (c ∈ l) = false := decide_eq_false (fun hc => by
      obtain ⟨j, hj, rfl⟩ := List.getElem_of_mem hc
      exact hv j (by omega) (by rw [List.getD_eq_getElem?_getD, List.getElem?_eq_getElem hj]; rfl))
    (refine Qh (Qq (Qw (Qx fun K hK => ?_))); refine Qy rfl rfl rfl ?_; refine Qv (hK _ _ (Qq (Q0 ?_))); clear hK K)
    refine Q1 [_] rfl (QJ rfl QX) (by rw [e]; rfl) rfl
theorem gorWo : InGo Tryz.prog 43 := InGo.of Tryz.func43 rfl (by decide)
set_option maxHeartbeats 4000000 in
theorem rWo_ok (a o : List Cl) (ha : a.length ≤ 100) (ho : o.length ≤ 1000) (hU : ∀ x ∈ a, U x) : OkF Tryz.prog 43 [clsC a, clsC o] 62 7 (cls (rwo a o)) := by
  refine OkF.enter Tryz.func43 rfl _ Tryz.ntmps43 rfl ?_
  intro S w
  (refine Qw (Qx fun K hK => ?_); refine Qy rfl rfl rfl ?_; refine Qv (hK _ _ (Qq (Qw ?_))); clear hK K; refine Qx (fun K hK => ?_); refine Qy rfl rfl rfl ?_; refine Qv (hK _ _ (Qq (Qw (Qw ?_)))); clear hK K; refine Qx (fun K hK => ?_); refine Qy rfl rfl rfl ?_; refine Qv (hK _ _ (Qq (Q4 ?_))); clear hK K)
  refine Zf 5 0 62 7 rfl rfl rfl ?_
  refine Qt (α := Nat × List Cl) (fun x => x.1 ≤ a.length ∧ ordF cmpC c0 (notIn o) (a.drop x.1) x.2 = rwo a o ∧ (∀ y ∈ x.2, U y) ∧ x.2.length ≤ x.1)
    (fun x => [(0, .ct (clsC a)), (1, .ct (clsC o)), (5, .own 0), (6, .ct (intC x.1))]) (fun x => [(0, .row 62 7 (cls x.2))]) (fun x => a.length - x.1) (0, []) ⟨Nat.zero_le _, rfl, by simp, Nat.le_refl _⟩ (by exact QK rfl ⟨rfl, rfl, rfl, rfl, trivial⟩) ?_
  rintro ⟨i, out⟩ ⟨hi, hs, hu, hol⟩
  dsimp only at hi hs hu hol ⊢
  (refine Qw (Qw (Qx fun K hK => ?_)); refine Qz rfl rfl rfl ?_; refine Qz rfl rfl rfl ?_; refine Qd rfl rfl (by with_reducible first | exact sClaims.und | exact sInts.und | exact sLists.und) (List.length_map ..) rfl ?_; refine Qk ilss rfl rfl rfl rfl ?_; refine Qv (hK _ _ (Qq ?_)); clear hK K)
  refine Q7 rfl (fun h => ?_) (fun h => ?_)
  · have e2 : (i : Int).toNat = i := Int.toNat_natCast i
    have hm := Z8 (l := a) (i := i) (by omega)
    rw [dropC (l := a) (i := i) (by omega)] at hs
    simp only [ordF, notIn] at hs
    (refine Q5 (Qq (Qw (Q4 (Qw (Qx fun K hK => ?_))))); refine Qz rfl rfl rfl ?_; refine Qz rfl rfl rfl ?_; refine Qz rfl rfl rfl ?_; refine Ql rfl rfl rfl (by with_reducible exact sClaims) (by omega) (Xg (by omega) (by omega)) rfl ?_; refine Qs (n := 7) rfl rfl rfl (by with_reducible exact Xz) rfl rfl ?_)
    rw [e2]
    generalize hc : a.getD i c0 = c at hm hs
    refine Q3 gohas (has_ok o c ho) rfl rfl rfl rfl ?_
    (refine Qb rfl rfl rfl ?_; refine Qv (hK _ _ (Qq ?_)); clear hK K)
    refine X5 rfl (fun h2 => ?_) (fun h2 => ?_)
    · rw [if_pos h2, ← put_F] at hs
      (refine Qx (fun K hK => ?_); refine Qz rfl rfl rfl ?_; refine Qz rfl rfl rfl ?_; refine Qz rfl rfl rfl ?_; refine Ql rfl rfl rfl (by with_reducible exact sClaims) (by omega) (Xg (by omega) (by omega)) rfl ?_; refine Qs (n := 7) rfl rfl rfl (by with_reducible exact Xz) rfl rfl ?_)
      rw [e2, hc]
      refine Yz goPut (Put_ok out c (by omega) hu (hU _ hm)) rfl rfl rfl rfl rfl ?_
      (refine Qy rfl rfl rfl ?_; refine Qv (hK _ _ (Qq ?_)); clear hK K; refine Qx (fun K hK => ?_); refine Qz rfl rfl rfl ?_; refine Qk (iadd (by omega) (by omega)) rfl rfl rfl rfl ?_; refine Qy rfl rfl rfl ?_; refine Qv (hK _ _ (Qa ?_)); clear hK K)
      refine Qg (i + 1, put out c) (by dsimp only; omega) ⟨by dsimp only; omega, hs, fun y hy => by
        rcases put_mem hy with h3 | h3
        · exact hu y h3
        · rw [h3]; exact hU _ hm, by have := put_len out c; dsimp only; omega⟩ (by exact QK rfl ⟨rfl, rfl, rfl, by simp only [Int.natCast_add]; rfl, trivial⟩)
    · rw [if_neg (by rw [h2]; decide)] at hs
      (refine Q5 (Qq (Qx fun K hK => ?_)); refine Qz rfl rfl rfl ?_; refine Qk (iadd (by omega) (by omega)) rfl rfl rfl rfl ?_; refine Qy rfl rfl rfl ?_; refine Qv (hK _ _ (Qa ?_)); clear hK K)
      refine Qg (i + 1, out) (by dsimp only; omega) ⟨by dsimp only; omega, hs, hu, by dsimp only; omega⟩ (by exact QK rfl ⟨rfl, rfl, rfl, by simp only [Int.natCast_add]; rfl, trivial⟩)
  · have hi' : i = a.length := by omega
    rw [hi', List.drop_length] at hs
    rw [← hs]
    (refine Qh (Qq (Qw (Qx fun K hK => ?_))); refine Qz rfl rfl rfl ?_; refine Qy rfl rfl rfl ?_; refine Qv (hK _ _ (Qq (Q0 ?_))); clear hK K)
    refine Fin.retF rfl rfl rfl rfl
theorem gorising : InGo Tryz.prog 47 := InGo.of Tryz.func47 rfl (by decide)
set_option maxHeartbeats 4000000 in
theorem rising_gen (l : List Cl) (hl : l.length ≤ 1000) (hU : ∀ x ∈ l, U x) : Ok Tryz.prog 47 [clsC l] (boolC (ascB l)) := by
  refine Ok.enter Tryz.func47 rfl _ Tryz.ntmps47 rfl ?_
  intro S w
  (refine Qw (Qx fun K hK => ?_); refine Qy rfl rfl rfl ?_; refine Qv (hK _ _ (Qq (Qw (Qw ?_)))); clear hK K; refine Qx (fun K hK => ?_); refine Qy rfl rfl rfl ?_; refine Qv (hK _ _ (Qq (Q4 ?_))); clear hK K)
  refine Qt (α := Nat) (fun i => i ≤ l.length ∧ ∀ j, j < i → j + 1 < l.length → cmpC (l.getD j c0) (l.getD (j + 1) c0) < 0)
    (fun i => [(0, .ct (clsC l)), (3, .ct (intC (i + 1)))]) (fun _ => []) (fun i => l.length - i) 0 ⟨Nat.zero_le _, fun j h => absurd h (Nat.not_lt_zero j)⟩ (by exact QK rfl ⟨rfl, rfl, trivial⟩) ?_
  rintro i ⟨hi, hv⟩
  dsimp only at hi hv ⊢
  (refine Qw (Qw (Qx fun K hK => ?_)); refine Qz rfl rfl rfl ?_; refine Qz rfl rfl rfl ?_; refine Qd rfl rfl (by with_reducible first | exact sClaims.und | exact sInts.und | exact sLists.und) (List.length_map ..) rfl ?_; refine Qk ilss rfl rfl rfl rfl ?_; refine Qv (hK _ _ (Qq ?_)); clear hK K)
  refine Q7 rfl (fun h => ?_) (fun h => ?_)
  · have e1 : ((i : Int) + 1 - 1).toNat = i := by omega
    have e2 : ((i : Int) + 1).toNat = i + 1 := by omega
    have u1 := hU _ (Z8 (l := l) (i := i) (by omega))
    have u2 := hU _ (Z8 (l := l) (i := i + 1) (by omega))
    (refine Q5 (Qq (Qw (Q4 (Qw ?_)))))
    refine Qp (by with_reducible exact mixed) 11 (.p 0 (.p 1 (.p 2 (.p 3 (.p 5 (.p 6 (.p 7 (.f 4 (.f 8 (.m 9 (.p 10 .done))))))))))) (by kernel_rfl) (fun K hK => ?_)
    (refine Qz rfl rfl rfl ?_; refine Qz rfl rfl rfl ?_; refine Qk (isub (by omega) (by omega)) rfl rfl rfl rfl ?_; refine Ql rfl rfl rfl (by with_reducible exact sClaims) (by omega) (Xg (by omega) (by omega)) rfl ?_; refine Qz rfl rfl rfl ?_; refine Qz rfl rfl rfl ?_; refine Ql rfl rfl rfl (by with_reducible exact sClaims) (by omega) (Xg (by omega) (by omega)) rfl ?_; refine Qs (n := 7) rfl rfl rfl (by with_reducible exact Xz) rfl rfl ?_; refine Qs (n := 7) rfl rfl rfl (by with_reducible exact Xz) rfl rfl ?_)
    rw [e1, e2]
    refine Q3 gorCmp (rCmp_ok _ _ u1 u2) rfl rfl rfl rfl ?_
    (refine Qk igeq rfl rfl rfl rfl ?_; refine Qv (hK _ _ (Qq ?_)); clear hK K)
    refine Q7 rfl (fun h4 => ?_) (fun h4 => ?_)
    · have e : ascB l = false := ascB_no (fun ha => by have := ha.at (i := i) (by omega); omega)
      (refine Qw (Qx fun K hK => ?_); refine Qy rfl rfl rfl ?_; refine Qv (hK _ _ (Qq (Q0 (Q6 (QV (QV (Q6 (QV ?_)))))))); clear hK K)
      refine Q1 [_] rfl (QJ rfl QX) (by rw [e]; rfl) rfl
    · (refine Q5 (Qq (Qx fun K hK => ?_)); refine Qz rfl rfl rfl ?_; refine Qk (iadd (by omega) (by omega)) rfl rfl rfl rfl ?_; refine Qy rfl rfl rfl ?_; refine Qv (hK _ _ (Qa ?_)); clear hK K)
      refine Qg (i + 1) (by omega) ⟨by omega, fun j hj hj2 => ?_⟩ (by exact QK rfl ⟨rfl, by simp only [Int.natCast_add]; rfl, trivial⟩)
      rcases Nat.lt_or_ge j i with h5 | h5
      · exact hv j h5 hj2
      · have : j = i := by omega
        subst this; omega
  · have e : ascB l = true := ascB_iff.2 (asc_of fun j hj => hv j (by omega) hj)
    (refine Qh (Qq (Qw (Qx fun K hK => ?_))); refine Qy rfl rfl rfl ?_; refine Qv (hK _ _ (Qq (Q0 ?_))); clear hK K)
    refine Q1 [_] rfl (QJ rfl QX) (by rw [e]; rfl) rfl
theorem gorSame : InGo Tryz.prog 15 := InGo.of Tryz.func15 rfl (by decide)
set_option maxHeartbeats 4000000 in
theorem rSame_gen (g m g' m' : List Cl) (h1 : g.length ≤ 1000) (h2 : m.length ≤ 1000) (h3 : g'.length ≤ 1000) (h4 : m'.length ≤ 1000) : Ok Tryz.prog 15 [dfC g m, dfC g' m'] (boolC (decide (g = g') && decide (m = m'))) := by
  have hA := SameClaims_gen g g' h1 h3
  have hB := SameClaims_gen m m' h2 h4
  generalize decide (m = m') = b2 at *
  refine Ok.enter Tryz.func15 rfl _ Tryz.ntmps15 rfl ?_
  intro S w
  generalize decide (g = g') = b1 at *
  cases b1 with
  | true =>
    (refine Qw (Qx fun K hK => ?_); refine Qf 0 rfl rfl rfl rfl rfl rfl rfl ?_; refine Qf 1 rfl rfl rfl rfl rfl rfl rfl ?_; refine Qy rfl rfl rfl ?_; refine Qv (hK _ _ (Qq (Qw ?_))); clear hK K; refine Qx (fun K hK => ?_); refine Qu rfl rfl rfl (by with_reducible first | exact fK0 | exact fK1 | exact fK2 | exact fK3 | exact fK4 | exact fK5 | exact fK6 | exact fE0 | exact fE1 | exact fE2 | exact fE3 | exact fA0 | exact fD0 | exact fD1) rfl ?_; refine QQ rfl rfl rfl rfl rfl (by with_reducible first | exact lInt | exact QU | exact QW | exact QY | exact lIDs) rfl ?_; refine Qu rfl rfl rfl (by with_reducible first | exact fK0 | exact fK1 | exact fK2 | exact fK3 | exact fK4 | exact fK5 | exact fK6 | exact fE0 | exact fE1 | exact fE2 | exact fE3 | exact fA0 | exact fD0 | exact fD1) rfl ?_; refine QQ rfl rfl rfl rfl rfl (by with_reducible first | exact lInt | exact QU | exact QW | exact QY | exact lIDs) rfl ?_)
    refine Q3 goSameClaims hA rfl rfl rfl rfl ?_
    (refine Qz rfl rfl rfl ?_; refine Qu rfl rfl rfl (by with_reducible first | exact fK0 | exact fK1 | exact fK2 | exact fK3 | exact fK4 | exact fK5 | exact fK6 | exact fE0 | exact fE1 | exact fE2 | exact fE3 | exact fA0 | exact fD0 | exact fD1) rfl ?_; refine QQ rfl rfl rfl rfl rfl (by with_reducible first | exact lInt | exact QU | exact QW | exact QY | exact lIDs) rfl ?_; refine Qu rfl rfl rfl (by with_reducible first | exact fK0 | exact fK1 | exact fK2 | exact fK3 | exact fK4 | exact fK5 | exact fK6 | exact fE0 | exact fE1 | exact fE2 | exact fE3 | exact fA0 | exact fD0 | exact fD1) rfl ?_; refine QQ rfl rfl rfl rfl rfl (by with_reducible first | exact lInt | exact QU | exact QW | exact QY | exact lIDs) rfl ?_)
    refine Q3 goSameClaims hB rfl rfl rfl rfl ?_
    (refine QZ rfl rfl rfl rfl ?_; refine Qy rfl rfl rfl ?_; refine Qv (hK _ _ (Qq (Q0 ?_))); clear hK K)
    refine Q1 [_] rfl (QJ rfl QX) (by rw [Bool.true_and]; rfl) rfl
  | false =>
    (refine Qw (Qx fun K hK => ?_); refine Qf 0 rfl rfl rfl rfl rfl rfl rfl ?_; refine Qf 1 rfl rfl rfl rfl rfl rfl rfl ?_; refine Qy rfl rfl rfl ?_; refine Qv (hK _ _ (Qq (Qw ?_))); clear hK K; refine Qx (fun K hK => ?_); refine Qu rfl rfl rfl (by with_reducible first | exact fK0 | exact fK1 | exact fK2 | exact fK3 | exact fK4 | exact fK5 | exact fK6 | exact fE0 | exact fE1 | exact fE2 | exact fE3 | exact fA0 | exact fD0 | exact fD1) rfl ?_; refine QQ rfl rfl rfl rfl rfl (by with_reducible first | exact lInt | exact QU | exact QW | exact QY | exact lIDs) rfl ?_; refine Qu rfl rfl rfl (by with_reducible first | exact fK0 | exact fK1 | exact fK2 | exact fK3 | exact fK4 | exact fK5 | exact fK6 | exact fE0 | exact fE1 | exact fE2 | exact fE3 | exact fA0 | exact fD0 | exact fD1) rfl ?_; refine QQ rfl rfl rfl rfl rfl (by with_reducible first | exact lInt | exact QU | exact QW | exact QY | exact lIDs) rfl ?_)
    refine Q3 goSameClaims hA rfl rfl rfl rfl ?_
    (refine Qz rfl rfl rfl ?_; refine Qj rfl rfl rfl ?_; refine Qj rfl rfl rfl ?_; refine Qj rfl rfl rfl ?_; refine Qj rfl rfl rfl ?_; refine Qj rfl rfl rfl ?_; refine Q2 rfl rfl rfl rfl ?_; refine Qy rfl rfl rfl ?_; refine Qv (hK _ _ (Qq (Q0 ?_))); clear hK K)
    refine Q1 [_] rfl (QJ rfl QX) (by rw [Bool.false_and]; rfl) rfl
theorem gorCompare : InGo Tryz.prog 17 := InGo.of Tryz.func17 rfl (by decide)
set_option maxHeartbeats 4000000 in
theorem rCompare_gen (a b : List Cl) (ha : a.length ≤ 100) (hb : b.length ≤ 100) (ua : ∀ x ∈ a, U x) (ub : ∀ x ∈ b, U x) : Ok Tryz.prog 17 [atX a, atX b] (dfC (rwo a b) (rwo b a)) := by
  refine Ok.enter Tryz.func17 rfl _ Tryz.ntmps17 rfl ?_
  intro S w
  (refine Qw (Qx fun K hK => ?_); refine Qf 0 rfl rfl rfl rfl rfl rfl rfl ?_; refine Qf 1 rfl rfl rfl rfl rfl rfl rfl ?_; refine Qo 2 rfl rfl (by with_reducible exact zvDiff) rfl rfl rfl ?_; refine Qv (hK _ _ (Qq (Qw ?_))); clear hK K)
  refine Qp (by with_reducible exact mixed) 11 (.p 0 (.p 2 (.p 5 (.p 7 (.f 1 (.f 3 (.f 6 (.f 8 (.m 4 (.m 9 (.p 10 (.a 11 .done)))))))))))) (by kernel_rfl) (fun K hK => ?_)
  (refine Qu rfl rfl rfl (by with_reducible first | exact fK0 | exact fK1 | exact fK2 | exact fK3 | exact fK4 | exact fK5 | exact fK6 | exact fE0 | exact fE1 | exact fE2 | exact fE3 | exact fA0 | exact fD0 | exact fD1) rfl ?_; refine Qu rfl rfl rfl (by with_reducible first | exact fK0 | exact fK1 | exact fK2 | exact fK3 | exact fK4 | exact fK5 | exact fK6 | exact fE0 | exact fE1 | exact fE2 | exact fE3 | exact fA0 | exact fD0 | exact fD1) rfl ?_; refine Qu rfl rfl rfl (by with_reducible first | exact fK0 | exact fK1 | exact fK2 | exact fK3 | exact fK4 | exact fK5 | exact fK6 | exact fE0 | exact fE1 | exact fE2 | exact fE3 | exact fA0 | exact fD0 | exact fD1) rfl ?_; refine Qu rfl rfl rfl (by with_reducible first | exact fK0 | exact fK1 | exact fK2 | exact fK3 | exact fK4 | exact fK5 | exact fK6 | exact fE0 | exact fE1 | exact fE2 | exact fE3 | exact fA0 | exact fD0 | exact fD1) rfl ?_; refine QQ rfl rfl rfl rfl rfl (by with_reducible first | exact lInt | exact QU | exact QW | exact QY | exact lIDs) rfl ?_; refine QQ rfl rfl rfl rfl rfl (by with_reducible first | exact lInt | exact QU | exact QW | exact QY | exact lIDs) rfl ?_; refine QQ rfl rfl rfl rfl rfl (by with_reducible first | exact lInt | exact QU | exact QW | exact QY | exact lIDs) rfl ?_; refine QQ rfl rfl rfl rfl rfl (by with_reducible first | exact lInt | exact QU | exact QW | exact QY | exact lIDs) rfl ?_)
  refine Xn 3 gorWo (rWo_ok a b ha (by omega) ua) rfl rfl rfl rfl rfl rfl ?_
  refine Xl 3 _ rfl (X0 _ _) X1 ?_
  skip
  refine Xn 3 gorWo (rWo_ok b a hb (by omega) ub) rfl rfl rfl rfl rfl rfl ?_
  refine Xl 3 _ rfl (X0 _ _) X1 ?_
  skip
  refine Xq rfl (by with_reducible exact bDiff) rfl (.one rfl rfl rfl rfl (.one rfl rfl rfl rfl .nil)) rfl ?_
  (refine Qr 2 rfl rfl rfl rfl rfl (by with_reducible exact szDiff) rfl rfl ?_; refine Qv (hK _ _ (Qq (Q0 ?_))); clear hK K)
  refine Fin.end [_] rfl (X4 (n := 2) rfl rfl (by with_reducible exact Zz) rfl QX) rfl rfl
theorem gorInv : InGo Tryz.prog 22 := InGo.of Tryz.func22 rfl (by decide)
set_option maxHeartbeats 8000000 in
theorem rInv_ok (g m : List Cl) (hg : g.length ≤ 100) (hm : m.length ≤ 100) : Ok Tryz.prog 22 [dfC g m] (dfC m g) := by
  refine Ok.enter Tryz.func22 rfl _ Tryz.ntmps22 rfl ?_
  intro S w
  (refine Qw (Qx fun K hK => ?_); refine Qf 0 rfl rfl rfl rfl rfl rfl rfl ?_; refine Qo 1 rfl rfl (by with_reducible exact zvDiff) rfl rfl rfl ?_; refine Qv (hK _ _ (Qq (Qw ?_))); clear hK K)
  refine St.drawA (by with_reducible exact mixed) (.p 0 (.p 3 (.fk 1 (.fk 2 (.lin (.a 4 (.a 5 (.p 6 (.a 7 .done))))) 4 (.lin (.a 2 (.a 5 (.p 6 (.a 7 .done)))))) 4 (.lin (.a 1 (.a 2 (.a 5 (.p 6 (.a 7 .done))))))))) (by kernel_rfl) (fun K hK => ?_)
  refine Fin.p ?_
  (refine Qu rfl rfl rfl (by with_reducible first | exact fK0 | exact fK1 | exact fK2 | exact fK3 | exact fK4 | exact fK5 | exact fK6 | exact fE0 | exact fE1 | exact fE2 | exact fE3 | exact fA0 | exact fD0 | exact fD1) rfl ?_)
  refine Qv (Fin.p ?_)
  (refine Qu rfl rfl rfl (by with_reducible first | exact fK0 | exact fK1 | exact fK2 | exact fK3 | exact fK4 | exact fK5 | exact fK6 | exact fE0 | exact fE1 | exact fE2 | exact fE3 | exact fA0 | exact fD0 | exact fD1) rfl ?_)
  refine Qv ?_
  refine Fin.fk ?_ ?_
  · (refine QQ rfl rfl rfl rfl rfl (by with_reducible first | exact lInt | exact QU | exact QW | exact QY | exact lIDs) rfl ?_)
    refine Qv ?_
    refine Fin.fk ?_ ?_
    · refine Zt 2 rfl rfl rfl (by with_reducible exact sClaims) (Zo m) (by rw [List.length_map]; omega) (by rw [List.length_map]; omega) rfl rfl rfl ?_
      refine Xl 2 _ rfl (X0 _ m) X1 ?_
      refine Qv ?_
      refine Fin.lin ?_
      (refine QQ rfl rfl rfl rfl rfl (by with_reducible first | exact lInt | exact QU | exact QW | exact QY | exact lIDs) rfl ?_)
      refine Zt 2 rfl rfl rfl (by with_reducible exact sClaims) (Zo g) (by rw [List.length_map]; omega) (by rw [List.length_map]; omega) rfl rfl rfl ?_
      refine Xl 2 _ rfl (X0 _ g) X1 ?_
      refine Xq rfl (by with_reducible exact bDiff) rfl (.one rfl rfl rfl rfl (.one rfl rfl rfl rfl .nil)) rfl ?_
      (refine Qr 2 rfl rfl rfl rfl rfl (by with_reducible exact szDiff) rfl rfl ?_; refine Qv (hK _ _ (Qq (Q0 ?_))); clear hK K)
      refine Fin.end [_] rfl (X4 (n := 2) rfl rfl (by with_reducible exact Zz) rfl QX) rfl rfl
    · (refine QQ rfl rfl rfl rfl rfl (by with_reducible first | exact lInt | exact QU | exact QW | exact QY | exact lIDs) rfl ?_)
      refine Qv ?_
      refine Fin.lin ?_
      refine Zt 2 rfl rfl rfl (by with_reducible exact sClaims) (Zo m) (by rw [List.length_map]; omega) (by rw [List.length_map]; omega) rfl rfl rfl ?_
      refine Xl 2 _ rfl (X0 _ m) X1 ?_
      refine Zt 2 rfl rfl rfl (by with_reducible exact sClaims) (Zo g) (by rw [List.length_map]; omega) (by rw [List.length_map]; omega) rfl rfl rfl ?_
      refine Xl 2 _ rfl (X0 _ g) X1 ?_
      refine Xq rfl (by with_reducible exact bDiff) rfl (.one rfl rfl rfl rfl (.one rfl rfl rfl rfl .nil)) rfl ?_
      (refine Qr 2 rfl rfl rfl rfl rfl (by with_reducible exact szDiff) rfl rfl ?_; refine Qv (hK _ _ (Qq (Q0 ?_))); clear hK K)
      refine Fin.end [_] rfl (X4 (n := 2) rfl rfl (by with_reducible exact Zz) rfl QX) rfl rfl
  · (refine QQ rfl rfl rfl rfl rfl (by with_reducible first | exact lInt | exact QU | exact QW | exact QY | exact lIDs) rfl ?_)
    refine Qv ?_
    refine Fin.lin ?_
    (refine QQ rfl rfl rfl rfl rfl (by with_reducible first | exact lInt | exact QU | exact QW | exact QY | exact lIDs) rfl ?_)
    refine Zt 2 rfl rfl rfl (by with_reducible exact sClaims) (Zo m) (by rw [List.length_map]; omega) (by rw [List.length_map]; omega) rfl rfl rfl ?_
    refine Xl 2 _ rfl (X0 _ m) X1 ?_
    refine Zt 2 rfl rfl rfl (by with_reducible exact sClaims) (Zo g) (by rw [List.length_map]; omega) (by rw [List.length_map]; omega) rfl rfl rfl ?_
    refine Xl 2 _ rfl (X0 _ g) X1 ?_
    refine Xq rfl (by with_reducible exact bDiff) rfl (.one rfl rfl rfl rfl (.one rfl rfl rfl rfl .nil)) rfl ?_
    (refine Qr 2 rfl rfl rfl rfl rfl (by with_reducible exact szDiff) rfl rfl ?_; refine Qv (hK _ _ (Qq (Q0 ?_))); clear hK K)
    refine Fin.end [_] rfl (X4 (n := 2) rfl rfl (by with_reducible exact Zz) rfl QX) rfl rfl
theorem goboth : InGo Tryz.prog 51 := InGo.of Tryz.func51 rfl (by decide)
def bothR (a x b y : List Cl) : List Cl := putA (rwo b y) (rwo a x)
set_option maxHeartbeats 4000000 in
theorem both_ok (a x b y : List Cl) (ha : a.length ≤ 100) (hx : x.length ≤ 100) (hb : b.length ≤ 100) (hy : y.length ≤ 100) (ua : ∀ z ∈ a, U z) (ub : ∀ z ∈ b, U z) : OkF Tryz.prog 51 [clsC a, clsC x, clsC b, clsC y] 62 7 (cls (bothR a x b y)) := by
  have hA := rWo_ok a x ha (by omega) ua
  have hB := rWo_ok b y hb (by omega) ub
  have l1 := rwo_len a x
  have l2 := rwo_len b y
  have u1 := rwo_U (o := x) ua
  have u2 := rwo_U (o := y) ub
  unfold bothR
  generalize rwo a x = p at *
  generalize rwo b y = l at *
  refine OkF.enter Tryz.func51 rfl _ Tryz.ntmps51 rfl ?_
  intro S w
  (refine Qw (Qx fun K hK => ?_); refine Qy rfl rfl rfl ?_; refine Qv (hK _ _ (Qq (Qw ?_))); clear hK K; refine Qx (fun K hK => ?_); refine Qz rfl rfl rfl ?_; refine Qz rfl rfl rfl ?_)
  refine Xn 0 gorWo hA rfl rfl rfl rfl rfl rfl ?_
  (refine Qy rfl rfl rfl ?_; refine Qv (hK _ _ (Qq (Qw ?_))); clear hK K; refine Qx (fun K hK => ?_); refine Qz rfl rfl rfl ?_; refine Qz rfl rfl rfl ?_)
  refine Xn 1 gorWo hB rfl rfl rfl rfl rfl rfl ?_
  refine Xl 1 _ rfl (X0 _ _) X1 ?_
  (refine Qy rfl rfl rfl ?_; refine Qv (hK _ _ (Qq (Qw (Qw ?_)))); clear hK K; refine Qx (fun K hK => ?_); refine Qy rfl rfl rfl ?_; refine Qv (hK _ _ (Qq (Q4 ?_))); clear hK K)
  refine Qt (α := Nat × List Cl) (fun x => x.1 ≤ l.length ∧ putA (l.drop x.1) x.2 = putA l p ∧ (∀ y ∈ x.2, U y) ∧ x.2.length ≤ p.length + x.1)
    (fun x => [(9, .own 0), (10, .ct (clsC l)), (11, .ct (intC x.1))]) (fun x => [(0, .row 62 7 (cls x.2))]) (fun x => l.length - x.1) (0, p) ⟨Nat.zero_le _, rfl, u1, Nat.le_refl _⟩ (by exact QK rfl ⟨rfl, rfl, rfl, trivial⟩) ?_
  rintro ⟨i, out⟩ ⟨hi, hs, hu, hol⟩
  dsimp only at hi hs hu hol ⊢
  (refine Qw (Qw (Qx fun K hK => ?_)); refine Qz rfl rfl rfl ?_; refine Qz rfl rfl rfl ?_; refine Qd rfl rfl (by with_reducible first | exact sClaims.und | exact sInts.und | exact sLists.und) (List.length_map ..) rfl ?_; refine Qk ilss rfl rfl rfl rfl ?_; refine Qv (hK _ _ (Qq ?_)); clear hK K)
  refine Q7 rfl (fun h => ?_) (fun h => ?_)
  · have e2 : (i : Int).toNat = i := Int.toNat_natCast i
    have hm := Z8 (l := l) (i := i) (by omega)
    rw [dropC (l := l) (i := i) (by omega)] at hs
    simp only [putA, ordF, if_true] at hs
    rw [← put_F] at hs
    (refine Q5 (Qq (Qw (Q4 (Qx fun K hK => ?_)))); refine Qz rfl rfl rfl ?_; refine Qz rfl rfl rfl ?_; refine Qz rfl rfl rfl ?_; refine Ql rfl rfl rfl (by with_reducible exact sClaims) (by omega) (Xg (by omega) (by omega)) rfl ?_; refine Qs (n := 7) rfl rfl rfl (by with_reducible exact Xz) rfl rfl ?_)
    rw [e2]
    generalize hc : l.getD i c0 = c at hm hs
    refine Yz goPut (Put_ok out c (by omega) hu (u2 _ hm)) rfl rfl rfl rfl rfl ?_
    (refine Qy rfl rfl rfl ?_; refine Qv (hK _ _ (Qq ?_)); clear hK K; refine Qx (fun K hK => ?_); refine Qz rfl rfl rfl ?_; refine Qk (iadd (by omega) (by omega)) rfl rfl rfl rfl ?_; refine Qy rfl rfl rfl ?_; refine Qv (hK _ _ (Qa ?_)); clear hK K)
    refine Qg (i + 1, put out c) (by dsimp only; omega) ⟨by dsimp only; omega, hs, fun y hy => by
      rcases put_mem hy with h3 | h3
      · exact hu y h3
      · rw [h3]; exact u2 _ hm, by have := put_len out c; dsimp only; omega⟩ (by exact QK rfl ⟨rfl, rfl, by simp only [Int.natCast_add]; rfl, trivial⟩)
  · have hi' : i = l.length := by omega
    rw [hi', List.drop_length] at hs
    rw [← hs]
    (refine Qh (Qq (Qw (Qx fun K hK => ?_))); refine Qz rfl rfl rfl ?_; refine Qy rfl rfl rfl ?_; refine Qv (hK _ _ (Qq (Q0 ?_))); clear hK K)
    refine Fin.retF rfl rfl rfl rfl
theorem gorJoin : InGo Tryz.prog 24 := InGo.of Tryz.func24 rfl (by decide)
set_option maxHeartbeats 8000000 in
theorem rJoin_gen (g c h k : List Cl) (lg : g.length ≤ 100) (lc : c.length ≤ 100) (lh : h.length ≤ 100) (lk : k.length ≤ 100) (ug : ∀ z ∈ g, U z) (uc : ∀ z ∈ c, U z) (uh : ∀ z ∈ h, U z) (uk : ∀ z ∈ k, U z) :
    Ok Tryz.prog 24 [dfC g c, dfC h k] (dfC (bothR g k h c) (bothR c h k g)) := by
  refine Ok.enter Tryz.func24 rfl _ Tryz.ntmps24 rfl ?_
  intro S w
  (refine Qw (Qx fun K hK => ?_); refine Qf 0 rfl rfl rfl rfl rfl rfl rfl ?_; refine Qf 1 rfl rfl rfl rfl rfl rfl rfl ?_; refine Qo 2 rfl rfl (by with_reducible exact zvDiff) rfl rfl rfl ?_; refine Qv (hK _ _ (Qq (Qw ?_))); clear hK K)
  refine Qp (by with_reducible exact mixed) 19 (.p 0 (.p 2 (.p 4 (.p 6 (.p 9 (.p 11 (.p 13 (.p 15 (.f 1 (.f 3 (.f 5 (.f 7 (.f 10 (.f 12 (.f 14 (.f 16 (.m 8 (.m 17 (.p 18 (.a 19 .done)))))))))))))))))))) (by kernel_rfl) (fun K hK => ?_)
  (refine Qu rfl rfl rfl (by with_reducible first | exact fK0 | exact fK1 | exact fK2 | exact fK3 | exact fK4 | exact fK5 | exact fK6 | exact fE0 | exact fE1 | exact fE2 | exact fE3 | exact fA0 | exact fD0 | exact fD1) rfl ?_; refine Qu rfl rfl rfl (by with_reducible first | exact fK0 | exact fK1 | exact fK2 | exact fK3 | exact fK4 | exact fK5 | exact fK6 | exact fE0 | exact fE1 | exact fE2 | exact fE3 | exact fA0 | exact fD0 | exact fD1) rfl ?_; refine Qu rfl rfl rfl (by with_reducible first | exact fK0 | exact fK1 | exact fK2 | exact fK3 | exact fK4 | exact fK5 | exact fK6 | exact fE0 | exact fE1 | exact fE2 | exact fE3 | exact fA0 | exact fD0 | exact fD1) rfl ?_; refine Qu rfl rfl rfl (by with_reducible first | exact fK0 | exact fK1 | exact fK2 | exact fK3 | exact fK4 | exact fK5 | exact fK6 | exact fE0 | exact fE1 | exact fE2 | exact fE3 | exact fA0 | exact fD0 | exact fD1) rfl ?_; refine Qu rfl rfl rfl (by with_reducible first | exact fK0 | exact fK1 | exact fK2 | exact fK3 | exact fK4 | exact fK5 | exact fK6 | exact fE0 | exact fE1 | exact fE2 | exact fE3 | exact fA0 | exact fD0 | exact fD1) rfl ?_; refine Qu rfl rfl rfl (by with_reducible first | exact fK0 | exact fK1 | exact fK2 | exact fK3 | exact fK4 | exact fK5 | exact fK6 | exact fE0 | exact fE1 | exact fE2 | exact fE3 | exact fA0 | exact fD0 | exact fD1) rfl ?_; refine Qu rfl rfl rfl (by with_reducible first | exact fK0 | exact fK1 | exact fK2 | exact fK3 | exact fK4 | exact fK5 | exact fK6 | exact fE0 | exact fE1 | exact fE2 | exact fE3 | exact fA0 | exact fD0 | exact fD1) rfl ?_; refine Qu rfl rfl rfl (by with_reducible first | exact fK0 | exact fK1 | exact fK2 | exact fK3 | exact fK4 | exact fK5 | exact fK6 | exact fE0 | exact fE1 | exact fE2 | exact fE3 | exact fA0 | exact fD0 | exact fD1) rfl ?_; refine QQ rfl rfl rfl rfl rfl (by with_reducible first | exact lInt | exact QU | exact QW | exact QY | exact lIDs) rfl ?_; refine QQ rfl rfl rfl rfl rfl (by with_reducible first | exact lInt | exact QU | exact QW | exact QY | exact lIDs) rfl ?_; refine QQ rfl rfl rfl rfl rfl (by with_reducible first | exact lInt | exact QU | exact QW | exact QY | exact lIDs) rfl ?_; refine QQ rfl rfl rfl rfl rfl (by with_reducible first | exact lInt | exact QU | exact QW | exact QY | exact lIDs) rfl ?_; refine QQ rfl rfl rfl rfl rfl (by with_reducible first | exact lInt | exact QU | exact QW | exact QY | exact lIDs) rfl ?_; refine QQ rfl rfl rfl rfl rfl (by with_reducible first | exact lInt | exact QU | exact QW | exact QY | exact lIDs) rfl ?_; refine QQ rfl rfl rfl rfl rfl (by with_reducible first | exact lInt | exact QU | exact QW | exact QY | exact lIDs) rfl ?_; refine QQ rfl rfl rfl rfl rfl (by with_reducible first | exact lInt | exact QU | exact QW | exact QY | exact lIDs) rfl ?_)
  refine Xn 3 goboth (both_ok g k h c lg lk lh lc ug uh) rfl rfl rfl rfl rfl rfl ?_
  refine Xl 3 _ rfl (X0 _ _) X1 ?_
  skip
  refine Xn 3 goboth (both_ok c h k g lc lh lk lg uc uk) rfl rfl rfl rfl rfl rfl ?_
  refine Xl 3 _ rfl (X0 _ _) X1 ?_
  skip
  refine Xq rfl (by with_reducible exact bDiff) rfl (.one rfl rfl rfl rfl (.one rfl rfl rfl rfl .nil)) rfl ?_
  (refine Qr 2 rfl rfl rfl rfl rfl (by with_reducible exact szDiff) rfl rfl ?_; refine Qv (hK _ _ (Qq (Q0 ?_))); clear hK K)
  refine Fin.end [_] rfl (X4 (n := 2) rfl rfl (by with_reducible exact Zz) rfl QX) rfl rfl
end Go.Proofs.YtcelmhkpcdhneaaGreat
namespace Go.Proofs.YtcelmhkpcdhneaaGreat
open Go.Own Go.Limbs
attribute [local irreducible] St Ops Go.Own.Fin Ok OkB OkN OkT OkL OkF wpA
theorem aTwo : ArrT Tryz.prog 116 24 2 1 (.agg #[.slice none 0 0, .slice none 0 0]) := ⟨Tryz.underlying116, by kernel_rfl, by kernel_rfl⟩
def okL (l : List Cl) : Bool := l.all validC && ascB l
def rv (g m : List Cl) : Bool := okL g && (okL m && decide ((rwo g m).length = g.length))
theorem all_no {l : List Cl} {c : Cl} (h : c ∈ l) (hc : validC c = false) : okL l = false := by
  unfold okL
  rw [show l.all validC = false by rw [List.all_eq_false]; exact ⟨c, h, by rw [hc]; decide⟩, Bool.false_and]
theorem gorVal : InGo Tryz.prog 48 := InGo.of Tryz.func48 rfl (by decide)
set_option maxHeartbeats 8000000 in
theorem rVal_gen (g m : List Cl) (hg : g.length ≤ 100) (hm : m.length ≤ 100) (ug : ∀ z ∈ g, U z) (um : ∀ z ∈ m, U z) : Ok Tryz.prog 48 [dfC g m] (boolC (rv g m)) := by
  refine Ok.enter Tryz.func48 rfl _ Tryz.ntmps48 rfl ?_
  intro S w
  (refine Qw (Qx fun K hK => ?_); refine Qf 0 rfl rfl rfl rfl rfl rfl rfl ?_; refine Qy rfl rfl rfl ?_; refine Qv (hK _ _ (Qq (Qw (Qw ?_)))); clear hK K; refine Qx (fun K hK => ?_); refine Qu rfl rfl rfl (by with_reducible first | exact fK0 | exact fK1 | exact fK2 | exact fK3 | exact fK4 | exact fK5 | exact fK6 | exact fE0 | exact fE1 | exact fE2 | exact fE3 | exact fA0 | exact fD0 | exact fD1) rfl ?_; refine QQ rfl rfl rfl rfl rfl (by with_reducible first | exact lInt | exact QU | exact QW | exact QY | exact lIDs) rfl ?_; refine Qu rfl rfl rfl (by with_reducible first | exact fK0 | exact fK1 | exact fK2 | exact fK3 | exact fK4 | exact fK5 | exact fK6 | exact fE0 | exact fE1 | exact fE2 | exact fE3 | exact fA0 | exact fD0 | exact fD1) rfl ?_; refine QQ rfl rfl rfl rfl rfl (by with_reducible first | exact lInt | exact QU | exact QW | exact QY | exact lIDs) rfl ?_)
  refine XU (n := 1) (cs := [clsC g, clsC m]) rfl (by with_reducible exact aTwo) (.one rfl rfl rfl rfl (.one rfl rfl rfl rfl .nil)) rfl ?_
  (refine Qz rfl rfl rfl ?_; refine Qv (hK _ _ (Qq (Q4 ?_))); clear hK K)
  refine Qt (α := Nat) (fun j => j ≤ 2 ∧ (0 < j → okL g = true) ∧ (1 < j → okL m = true))
    (fun j => [(1, .own 0), (10, .ct (.fr (aggT [clsC g, clsC m]))), (11, .ct (intC j))]) (fun _ => [(0, .box 33 (dfCs g m))]) (fun j => 2 - j) 0 ⟨by decide, fun h => absurd h (by decide), fun h => absurd h (by decide)⟩ (by exact QK rfl ⟨rfl, rfl, rfl, trivial⟩) ?_
  rintro j ⟨hj, hj1, hj2⟩
  dsimp only at hj hj1 hj2 ⊢
  (refine Qw (Qx fun K hK => ?_); refine Qk ilss rfl rfl rfl rfl ?_; refine Qv (hK _ _ (Qq (Qw ?_))); clear hK K)
  refine Q7 rfl (fun h => ?_) (fun h => ?_)
  · have hy : ∃ y : List Cl, [clsC g, clsC m][(j : Int).toNat]? = some (clsC y) ∧ y.length ≤ 100 ∧ (∀ z ∈ y, U z) ∧ (okL y = false → rv g m = false) ∧ (okL y = true → (0 < j + 1 → okL g = true) ∧ (1 < j + 1 → okL m = true)) := by
      rcases (show j = 0 ∨ j = 1 by omega) with rfl | rfl
      · exact ⟨g, rfl, hg, ug, fun e => by rw [rv, e, Bool.false_and], fun e => ⟨fun _ => e, fun h => absurd h (by decide)⟩⟩
      · exact ⟨m, rfl, hm, um, fun e => by rw [rv, e, Bool.false_and, Bool.and_false], fun e => ⟨fun _ => hj1 (by decide), fun _ => e⟩⟩
    obtain ⟨y, hc, hyl, uy, hy0, hy1⟩ := hy
    have hr := rising_gen y (by omega) uy
    (refine Q5 (Qq (Qw (Q4 (Qw (Qx fun K hK => ?_))))))
    refine Ops.idxV1 (j := j) rfl rfl rfl (by with_reducible exact aTwo) Tryz.underlying24 rfl (by omega) (by omega) hc rfl ?_
    (refine Qy rfl rfl rfl ?_; refine Qv (hK _ _ (Qq (Qw (Qw ?_)))); clear hK K; refine Qx (fun K hK => ?_); refine Qy rfl rfl rfl ?_; refine Qv (hK _ _ (Qq (Q4 ?_))); clear hK K)
    refine Qt (α := Nat) (fun i => i ≤ y.length ∧ ∀ q, q < i → validC (y.getD q c0) = true)
      (fun i => [(1, .own 0), (10, .ct (.fr (aggT [clsC g, clsC m]))), (11, .ct (intC j)), (4, .ct (clsC y)), (5, .ct (intC i))]) (fun _ => [(0, .box 33 (dfCs g m))]) (fun i => y.length - i) 0 ⟨Nat.zero_le _, fun q h => absurd h (Nat.not_lt_zero q)⟩ (by exact QK rfl ⟨rfl, rfl, rfl, rfl, rfl, trivial⟩) ?_
    rintro i ⟨hi, hv⟩
    dsimp only at hi hv ⊢
    (refine Qw (Qw (Qx fun K hK => ?_)); refine Qz rfl rfl rfl ?_; refine Qz rfl rfl rfl ?_; refine Qd rfl rfl (by with_reducible first | exact sClaims.und | exact sInts.und | exact sLists.und) (List.length_map ..) rfl ?_; refine Qk ilss rfl rfl rfl rfl ?_; refine Qv (hK _ _ (Qq ?_)); clear hK K)
    refine Q7 rfl (fun h2 => ?_) (fun h2 => ?_)
    · have e2 : (i : Int).toNat = i := Int.toNat_natCast i
      have hm2 := Z8 (l := y) (i := i) (by omega)
      have hno : validC (y.getD i c0) = false → rv g m = false := fun e => hy0 (all_no hm2 e)
      (refine Q5 (Qq (Qw (Q4 (Qw (Qx fun K hK => ?_))))); refine Qz rfl rfl rfl ?_; refine Qz rfl rfl rfl ?_; refine Ql rfl rfl rfl (by with_reducible exact sClaims) (by omega) (Xg (by omega) (by omega)) rfl ?_; refine Qs (n := 7) rfl rfl rfl (by with_reducible exact Xz) rfl rfl ?_)
      rw [e2]
      refine Q3 gorValid (rValid_ok _) rfl rfl rfl rfl ?_
      (refine Qb rfl rfl rfl ?_; refine Qv (hK _ _ (Qq ?_)); clear hK K)
      refine X5 rfl (fun h3 => ?_) (fun h3 => ?_)
      · have e := hno (by simpa using h3)
        (refine Qw (Qx fun K hK => ?_); refine Qy rfl rfl rfl ?_; refine Qv (hK _ _ (Qq (Q0 (Q6 (QV (QV (Q6 (QV (Q6 (QV (QV (Q6 (QV ?_))))))))))))); clear hK K)
        refine Q1 [_] rfl (QJ rfl QX) (by rw [e]; rfl) rfl
      · (refine Q5 (Qq (Qx fun K hK => ?_)); refine Qz rfl rfl rfl ?_; refine Qk (iadd (by omega) (by omega)) rfl rfl rfl rfl ?_; refine Qy rfl rfl rfl ?_; refine Qv (hK _ _ (Qa ?_)); clear hK K)
        refine Qg (i + 1) (by omega) ⟨by omega, fun q hq => ?_⟩ (by exact QK rfl ⟨rfl, rfl, rfl, rfl, by simp only [Int.natCast_add]; rfl, trivial⟩)
        rcases Nat.lt_or_ge q i with h5 | h5
        · exact hv q h5
        · have : q = i := by omega
          subst this; simpa using h3
    · have hall : y.all validC = true := by
        rw [List.all_eq_true]
        intro x hx
        obtain ⟨q, hq, rfl⟩ := List.getElem_of_mem hx
        have := hv q (by omega)
        rwa [List.getD_eq_getElem?_getD, List.getElem?_eq_getElem hq] at this
      have hok : okL y = ascB y := by rw [okL, hall, Bool.true_and]
      rw [hok] at hy0 hy1
      (refine Qh (Qq (Qw (Qx fun K hK => ?_))); refine Qz rfl rfl rfl ?_)
      refine Q3 gorising hr rfl rfl rfl rfl ?_
      (refine Qb rfl rfl rfl ?_; refine Qv (hK _ _ (Qq ?_)); clear hK K)
      refine X5 rfl (fun h3 => ?_) (fun h3 => ?_)
      · have e := hy0 (by simpa using h3)
        (refine Qw (Qx fun K hK => ?_); refine Qy rfl rfl rfl ?_; refine Qv (hK _ _ (Qq (Q0 (Q6 (QV (QV (Q6 (QV ?_)))))))); clear hK K)
        refine Q1 [_] rfl (QJ rfl QX) (by rw [e]; rfl) rfl
      · (refine Q5 (Qq (Qx fun K hK => ?_)); refine Qk (iadd (by omega) (by omega)) rfl rfl rfl rfl ?_; refine Qz rfl rfl rfl ?_; refine Qv (hK _ _ (Qa ?_)); clear hK K)
        refine Qg (j + 1) (by omega) ⟨by omega, hy1 (by simpa using h3)⟩ (by exact QK rfl ⟨rfl, rfl, by simp only [Int.natCast_add]; rfl, trivial⟩)
  · have e1 := hj1 (by omega)
    have e2 := hj2 (by omega)
    have e : rv g m = decide ((rwo g m).length = g.length) := by rw [rv, e1, e2, Bool.true_and, Bool.true_and]
    rw [e]
    have hW := rWo_ok g m hg (by omega) ug
    clear e
    generalize rwo g m = x at *
    (refine Qh (Qq (Qw ?_)))
    refine Qp (by with_reducible exact mixed) 11 (.p 0 (.p 2 (.p 6 (.f 1 (.f 3 (.f 7 (.p 8 (.m 4 (.p 5 (.p 9 (.p 10 .done))))))))))) (by kernel_rfl) (fun K hK => ?_)
    (refine Qu rfl rfl rfl (by with_reducible first | exact fK0 | exact fK1 | exact fK2 | exact fK3 | exact fK4 | exact fK5 | exact fK6 | exact fE0 | exact fE1 | exact fE2 | exact fE3 | exact fA0 | exact fD0 | exact fD1) rfl ?_; refine Qu rfl rfl rfl (by with_reducible first | exact fK0 | exact fK1 | exact fK2 | exact fK3 | exact fK4 | exact fK5 | exact fK6 | exact fE0 | exact fE1 | exact fE2 | exact fE3 | exact fA0 | exact fD0 | exact fD1) rfl ?_; refine Qu rfl rfl rfl (by with_reducible first | exact fK0 | exact fK1 | exact fK2 | exact fK3 | exact fK4 | exact fK5 | exact fK6 | exact fE0 | exact fE1 | exact fE2 | exact fE3 | exact fA0 | exact fD0 | exact fD1) rfl ?_; refine QQ rfl rfl rfl rfl rfl (by with_reducible first | exact lInt | exact QU | exact QW | exact QY | exact lIDs) rfl ?_; refine QQ rfl rfl rfl rfl rfl (by with_reducible first | exact lInt | exact QU | exact QW | exact QY | exact lIDs) rfl ?_; refine QQ rfl rfl rfl rfl rfl (by with_reducible first | exact lInt | exact QU | exact QW | exact QY | exact lIDs) rfl ?_; refine Qd rfl rfl (by with_reducible first | exact sClaims.und | exact sInts.und | exact sLists.und) (List.length_map ..) rfl ?_)
    refine Xn 1 gorWo hW rfl rfl rfl rfl rfl rfl ?_
    refine Xl 1 _ rfl (X0 _ _) X1 ?_
    (refine Qd rfl rfl (by with_reducible first | exact sClaims.und | exact sInts.und | exact sLists.und) (List.length_map ..) rfl ?_; refine Qk ieql rfl rfl rfl rfl ?_; refine Qy rfl rfl rfl ?_; refine Qv (hK _ _ (Qq (Q0 ?_))); clear hK K)
    refine Q1 [_] rfl (QJ rfl QX) (by rw [show decide (x.length = g.length) = decide ((x.length : Int) = g.length) from decide_eq_decide.2 (by omega)]; rfl) rfl
def apR (c g m : List Cl) : List Cl × Int := if ascB c = true ∧ rv g m = true then (if ∀ x ∈ g, x ∈ c then (if ∀ x ∈ m, x ∉ c then (putA m (rwo c g), 0) else ([], 9)) else ([], 8)) else ([], 1)
theorem gorApply : InGo Tryz.prog 19 := InGo.of Tryz.func19 rfl (by decide)
set_option maxHeartbeats 8000000 in
theorem rApply_gen (c g m : List Cl) (hc : c.length ≤ 100) (hg : g.length ≤ 100) (hm : m.length ≤ 100) (uc : ∀ z ∈ c, U z) (ug : ∀ z ∈ g, U z) (um : ∀ z ∈ m, U z) : Ok Tryz.prog 19 [clsC c, dfC g m] (.fr (tupT [clsC (apR c g m).1, intC (apR c g m).2])) := by
  have hA := rising_gen c (by omega) uc
  have hV := rVal_gen g m hg hm ug um
  have hW := rWo_ok c g hc (by omega) uc
  have lw := rwo_len c g
  have uw := rwo_U (o := g) uc
  unfold apR
  generalize rwo c g = p at *
  refine Ok.enter Tryz.func19 rfl _ Tryz.ntmps19 rfl ?_
  intro S w
  generalize ascB c = b1 at *
  generalize rv g m = b2 at *
  cases b1 with
  | false =>
    rw [if_neg (by simp)]
    (refine Qw (Qx fun K hK => ?_); refine Qf 0 rfl rfl rfl rfl rfl rfl rfl ?_; refine Qy rfl rfl rfl ?_; refine Qy rfl rfl rfl ?_; refine Qv (hK _ _ (Qq (Qw (Qw ?_)))); clear hK K; refine Qx (fun K hK => ?_); refine Qz rfl rfl rfl ?_)
    refine Q3 gorising hA rfl rfl rfl rfl ?_
    (refine Qb rfl rfl rfl ?_; refine Qz rfl rfl rfl ?_; refine Qj rfl rfl rfl ?_; refine Qj rfl rfl rfl ?_; refine Qj rfl rfl rfl ?_; refine QZ rfl rfl rfl rfl ?_; refine Qv (hK _ _ (Qq (Qc rfl (Qw ?_)))); clear hK K; refine Qx (fun K hK => ?_); refine Qy rfl rfl rfl ?_; refine Qy rfl rfl rfl ?_; refine Qv (hK _ _ (Qq (Q0 (QV ?_)))); clear hK K)
    refine Q1 [_, _] rfl (Z3 7 rfl (QJ rfl QX)) rfl rfl
  | true =>
  cases b2 with
  | false =>
    rw [if_neg (by simp)]
    (refine Qw (Qx fun K hK => ?_); refine Qf 0 rfl rfl rfl rfl rfl rfl rfl ?_; refine Qy rfl rfl rfl ?_; refine Qy rfl rfl rfl ?_; refine Qv (hK _ _ (Qq (Qw (Qw ?_)))); clear hK K; refine Qx (fun K hK => ?_); refine Qz rfl rfl rfl ?_)
    refine Q3 gorising hA rfl rfl rfl rfl ?_
    (refine Qb rfl rfl rfl ?_; refine Qz rfl rfl rfl ?_; refine Qm (n := 2) rfl rfl rfl rfl rfl (by with_reducible exact Zz) rfl ?_)
    refine Q3 gorVal hV rfl rfl rfl rfl ?_
    (refine Qb rfl rfl rfl ?_; refine Q2 rfl rfl rfl rfl ?_; refine Qv (hK _ _ (Qq (Qc rfl (Qw ?_)))); clear hK K; refine Qx (fun K hK => ?_); refine Qy rfl rfl rfl ?_; refine Qy rfl rfl rfl ?_; refine Qv (hK _ _ (Qq (Q0 (QV ?_)))); clear hK K)
    refine Q1 [_, _] rfl (Z3 7 rfl (QJ rfl QX)) rfl rfl
  | true =>
    rw [if_pos (by simp)]
    (refine Qw (Qx fun K hK => ?_); refine Qf 0 rfl rfl rfl rfl rfl rfl rfl ?_; refine Qy rfl rfl rfl ?_; refine Qy rfl rfl rfl ?_; refine Qv (hK _ _ (Qq (Qw (Qw ?_)))); clear hK K; refine Qx (fun K hK => ?_); refine Qz rfl rfl rfl ?_)
    refine Q3 gorising hA rfl rfl rfl rfl ?_
    (refine Qb rfl rfl rfl ?_; refine Qz rfl rfl rfl ?_; refine Qm (n := 2) rfl rfl rfl rfl rfl (by with_reducible exact Zz) rfl ?_)
    refine Q3 gorVal hV rfl rfl rfl rfl ?_
    (refine Qb rfl rfl rfl ?_; refine Q2 rfl rfl rfl rfl ?_; refine Qv (hK _ _ (Qq (Qe rfl (Q5 (Qq (Qw (Qw ?_))))))); clear hK K; refine Qx (fun K hK => ?_); refine Qy rfl rfl rfl ?_; refine Qv (hK _ _ (Qq (Q4 ?_))); clear hK K)
    refine Qt (α := Nat) (fun i => i ≤ g.length ∧ ∀ q, q < i → g.getD q c0 ∈ c)
      (fun i => [(0, .ct (clsC c)), (3, .own 0), (6, .ct (intC i))]) (fun _ => [(0, .box 33 (dfCs g m))]) (fun i => g.length - i) 0 ⟨Nat.zero_le _, fun q h => absurd h (Nat.not_lt_zero q)⟩ (by exact QK rfl ⟨rfl, rfl, rfl, trivial⟩) ?_
    rintro i ⟨hi, hv⟩
    dsimp only at hi hv ⊢
    (refine Qw (Qw (Qx fun K hK => ?_)); refine Qz rfl rfl rfl ?_; refine Qu rfl rfl rfl (by with_reducible first | exact fK0 | exact fK1 | exact fK2 | exact fK3 | exact fK4 | exact fK5 | exact fK6 | exact fE0 | exact fE1 | exact fE2 | exact fE3 | exact fA0 | exact fD0 | exact fD1) rfl ?_; refine QQ rfl rfl rfl rfl rfl (by with_reducible first | exact lInt | exact QU | exact QW | exact QY | exact lIDs) rfl ?_; refine Qd rfl rfl (by with_reducible first | exact sClaims.und | exact sInts.und | exact sLists.und) (List.length_map ..) rfl ?_; refine Qk ilss rfl rfl rfl rfl ?_; refine Qv (hK _ _ (Qq ?_)); clear hK K)
    refine Q7 rfl (fun h2 => ?_) (fun h2 => ?_)
    · have e2 : (i : Int).toNat = i := Int.toNat_natCast i
      have hm2 := Z8 (l := g) (i := i) (by omega)
      (refine Q5 (Qq (Qw (Q4 (Qw (Qx fun K hK => ?_))))); refine Qz rfl rfl rfl ?_; refine Qu rfl rfl rfl (by with_reducible first | exact fK0 | exact fK1 | exact fK2 | exact fK3 | exact fK4 | exact fK5 | exact fK6 | exact fE0 | exact fE1 | exact fE2 | exact fE3 | exact fA0 | exact fD0 | exact fD1) rfl ?_; refine QQ rfl rfl rfl rfl rfl (by with_reducible first | exact lInt | exact QU | exact QW | exact QY | exact lIDs) rfl ?_; refine Qz rfl rfl rfl ?_; refine Ql rfl rfl rfl (by with_reducible exact sClaims) (by omega) (Xg (by omega) (by omega)) rfl ?_; refine Qs (n := 7) rfl rfl rfl (by with_reducible exact Xz) rfl rfl ?_)
      rw [e2]
      refine Q3 gohas (has_ok c _ (by omega)) rfl rfl rfl rfl ?_
      (refine Qb rfl rfl rfl ?_; refine Qv (hK _ _ (Qq ?_)); clear hK K)
      refine X5 rfl (fun h3 => ?_) (fun h3 => ?_)
      · have h5 : ¬ (g.getD i c0 ∈ c) := fun h4 => by rw [decide_eq_true h4] at h3; cases h3
        rw [if_neg (fun h4 => h5 (h4 _ hm2))]
        (refine Qw (Qx fun K hK => ?_); refine Qy rfl rfl rfl ?_; refine Qy rfl rfl rfl ?_; refine Qv (hK _ _ (Qq (Q0 (Q6 (QV (QV (Q6 (QV ?_)))))))); clear hK K)
        refine Q1 [_, _] rfl (Z3 7 rfl (QJ rfl QX)) rfl rfl
      · (refine Q5 (Qq (Qx fun K hK => ?_)); refine Qz rfl rfl rfl ?_; refine Qk (iadd (by omega) (by omega)) rfl rfl rfl rfl ?_; refine Qy rfl rfl rfl ?_; refine Qv (hK _ _ (Qa ?_)); clear hK K)
        refine Qg (i + 1) (by omega) ⟨by omega, fun q hq => ?_⟩ (by exact QK rfl ⟨rfl, rfl, by simp only [Int.natCast_add]; rfl, trivial⟩)
        rcases Nat.lt_or_ge q i with h5 | h5
        · exact hv q h5
        · have : q = i := by omega
          subst this; simpa using h3
    · rw [if_pos (fun x hx => by
        obtain ⟨q, hq, rfl⟩ := List.getElem_of_mem hx
        have := hv q (by omega)
        rwa [List.getD_eq_getElem?_getD, List.getElem?_eq_getElem hq] at this)]
      clear hv
      (refine Qh (Qq (Qw (Qx fun K hK => ?_))); refine Qz rfl rfl rfl ?_; refine Qu rfl rfl rfl (by with_reducible first | exact fK0 | exact fK1 | exact fK2 | exact fK3 | exact fK4 | exact fK5 | exact fK6 | exact fE0 | exact fE1 | exact fE2 | exact fE3 | exact fA0 | exact fD0 | exact fD1) rfl ?_; refine QQ rfl rfl rfl rfl rfl (by with_reducible first | exact lInt | exact QU | exact QW | exact QY | exact lIDs) rfl ?_)
      refine Xn 1 gorWo hW rfl rfl rfl rfl rfl rfl ?_
      (refine Qy rfl rfl rfl ?_; refine Qv (hK _ _ (Qq (Qw (Qw ?_)))); clear hK K; refine Qx (fun K hK => ?_); refine Qy rfl rfl rfl ?_; refine Qv (hK _ _ (Qq (Q4 ?_))); clear hK K)
      refine Qt (α := Nat × List Cl) (fun x => x.1 ≤ m.length ∧ putA (m.drop x.1) x.2 = putA m p ∧ (∀ y ∈ x.2, U y) ∧ x.2.length ≤ p.length + x.1 ∧ ∀ q, q < x.1 → m.getD q c0 ∉ c)
        (fun x => [(0, .ct (clsC c)), (3, .own 0), (7, .own 1), (8, .ct (intC x.1))]) (fun x => [(1, .row 62 7 (cls x.2)), (0, .box 33 (dfCs g m))]) (fun x => m.length - x.1) (0, p) ⟨Nat.zero_le _, rfl, uw, Nat.le_refl _, fun q h => absurd h (Nat.not_lt_zero q)⟩ (by exact QK rfl ⟨rfl, rfl, rfl, rfl, trivial⟩) ?_
      rintro ⟨i, out⟩ ⟨hi, hs, hu, hol, hv⟩
      dsimp only at hi hs hu hol hv ⊢
      (refine Qw (Qw (Qx fun K hK => ?_)); refine Qz rfl rfl rfl ?_; refine Qu rfl rfl rfl (by with_reducible first | exact fK0 | exact fK1 | exact fK2 | exact fK3 | exact fK4 | exact fK5 | exact fK6 | exact fE0 | exact fE1 | exact fE2 | exact fE3 | exact fA0 | exact fD0 | exact fD1) rfl ?_; refine QQ rfl rfl rfl rfl rfl (by with_reducible first | exact lInt | exact QU | exact QW | exact QY | exact lIDs) rfl ?_; refine Qd rfl rfl (by with_reducible first | exact sClaims.und | exact sInts.und | exact sLists.und) (List.length_map ..) rfl ?_; refine Qk ilss rfl rfl rfl rfl ?_; refine Qv (hK _ _ (Qq ?_)); clear hK K)
      refine Q7 rfl (fun h2 => ?_) (fun h2 => ?_)
      · have e2 : (i : Int).toNat = i := Int.toNat_natCast i
        have hm2 := Z8 (l := m) (i := i) (by omega)
        rw [dropC (l := m) (i := i) (by omega)] at hs
        simp only [putA, ordF, if_true] at hs
        rw [← put_F] at hs
        (refine Q5 (Qq (Qw (Q4 (Qw (Qw (Qx fun K hK => ?_)))))); refine Qz rfl rfl rfl ?_; refine Qu rfl rfl rfl (by with_reducible first | exact fK0 | exact fK1 | exact fK2 | exact fK3 | exact fK4 | exact fK5 | exact fK6 | exact fE0 | exact fE1 | exact fE2 | exact fE3 | exact fA0 | exact fD0 | exact fD1) rfl ?_; refine QQ rfl rfl rfl rfl rfl (by with_reducible first | exact lInt | exact QU | exact QW | exact QY | exact lIDs) rfl ?_; refine Qz rfl rfl rfl ?_; refine Ql rfl rfl rfl (by with_reducible exact sClaims) (by omega) (Xg (by omega) (by omega)) rfl ?_; refine Qs (n := 7) rfl rfl rfl (by with_reducible exact Xz) rfl rfl ?_)
        rw [e2]
        generalize hcc : m.getD i c0 = x at hm2 hs
        refine Q3 gohas (has_ok c x (by omega)) rfl rfl rfl rfl ?_
        (refine Qv (hK _ _ (Qq ?_)); clear hK K)
        refine X5 rfl (fun h3 => ?_) (fun h3 => ?_)
        · rw [if_neg (fun h4 => h4 _ hm2 (of_decide_eq_true h3))]
          (refine Qw (Qx fun K hK => ?_); refine Qy rfl rfl rfl ?_; refine Qy rfl rfl rfl ?_; refine Qv (hK _ _ (Qq (Q0 (QV (Q6 (QV (QV (Q6 (QV ?_))))))))); clear hK K)
          refine Q1 [_, _] rfl (Z3 7 rfl (QJ rfl QX)) rfl rfl
        · (refine Q5 (Qq (Qx fun K hK => ?_)); refine Qz rfl rfl rfl ?_; refine Qu rfl rfl rfl (by with_reducible first | exact fK0 | exact fK1 | exact fK2 | exact fK3 | exact fK4 | exact fK5 | exact fK6 | exact fE0 | exact fE1 | exact fE2 | exact fE3 | exact fA0 | exact fD0 | exact fD1) rfl ?_; refine QQ rfl rfl rfl rfl rfl (by with_reducible first | exact lInt | exact QU | exact QW | exact QY | exact lIDs) rfl ?_; refine Qz rfl rfl rfl ?_; refine Ql rfl rfl rfl (by with_reducible exact sClaims) (by omega) (Xg (by omega) (by omega)) rfl ?_; refine Qs (n := 7) rfl rfl rfl (by with_reducible exact Xz) rfl rfl ?_)
          rw [e2, hcc]
          refine Yz goPut (Put_ok out x (by omega) hu (um _ hm2)) rfl rfl rfl rfl rfl ?_
          (refine Qy rfl rfl rfl ?_; refine Qv (hK _ _ (Qq ?_)); clear hK K; refine Qx (fun K hK => ?_); refine Qz rfl rfl rfl ?_; refine Qk (iadd (by omega) (by omega)) rfl rfl rfl rfl ?_; refine Qy rfl rfl rfl ?_; refine Qv (hK _ _ (Qa ?_)); clear hK K)
          refine Qg (i + 1, put out x) (by dsimp only; omega) ⟨by dsimp only; omega, hs, fun y hy => by
            rcases put_mem hy with h4 | h4
            · exact hu y h4
            · rw [h4]; exact um _ hm2, by have := put_len out x; dsimp only; omega, fun q hq => by
            rcases Nat.lt_or_ge q i with h5 | h5
            · exact hv q h5
            · have : q = i := by dsimp only at hq; omega
              subst this; rw [hcc]; exact of_decide_eq_false h3⟩ (by exact QK rfl ⟨rfl, rfl, rfl, by simp only [Int.natCast_add]; rfl, trivial⟩)
      · have hi' : i = m.length := by omega
        rw [hi', List.drop_length] at hs
        rw [if_pos (fun x hx => by
          obtain ⟨q, hq, rfl⟩ := List.getElem_of_mem hx
          have := hv q (by omega)
          rwa [List.getD_eq_getElem?_getD, List.getElem?_eq_getElem hq] at this), ← hs]
        refine St.freeze 1 _ rfl (X0 _ _) X1 ?_
        (refine Qh (Qq (Qw (Qx fun K hK => ?_))); refine Qz rfl rfl rfl ?_; refine Qy rfl rfl rfl ?_; refine Qy rfl rfl rfl ?_; refine Qv (hK _ _ (Qq (Q0 ?_))); clear hK K)
        refine Q1 [_, _] rfl (QJ rfl (QJ rfl QX)) rfl rfl
end Go.Proofs.YtcelmhkpcdhneaaGreat
namespace Go.Proofs.YtcelmhkpcdhneaaGreat
open Go.Own Go.Limbs
theorem asc_up {l : List Cl} : Asc l ↔ Up cmpC l := by
  induction l with
  | nil => exact ⟨fun _ => List.Pairwise.nil, fun _ => trivial⟩
  | cons x l ih => exact ⟨fun h => List.pairwise_cons.2 ⟨fun y hy => h.head y hy, ih.1 h.tail⟩, fun h => Asc.cons (List.pairwise_cons.1 h).1 (ih.2 (List.pairwise_cons.1 h).2)⟩
theorem rwo_up (a o : List Cl) : Up cmpC (rwo a o) := (ordF_spec ordC c0 (notIn o) a [] List.Pairwise.nil).1
theorem sd_up (l : List Cl) : Up cmpC (sd cmpC l) := (sd_spec ordC l).1
theorem sd_mem {l : List Cl} (x : Cl) : x ∈ sd cmpC l ↔ x ∈ l := (sd_spec ordC l).2 x
theorem wo_up {l o : List Cl} (hl : Up cmpC l) : Up cmpC (wo l o) := asc_up.1 (wo_asc (asc_up.2 hl))
theorem wo_mem' {l o : List Cl} (hl : Up cmpC l) (ho : Up cmpC o) (x : Cl) : x ∈ wo l o ↔ x ∈ l ∧ x ∉ o := wo_mem (asc_up.2 hl) (asc_up.2 ho) x
theorem wo_rwo {a b : List Cl} (ha : Up cmpC a) (hb : Up cmpC b) : wo a b = rwo a b :=
  Up.ext ordC (wo_up ha) (rwo_up a b) fun x => by rw [wo_mem' ha hb, rwo_mem]
theorem cmp_eq (a b : List Cl) : wo (sd cmpC a) (sd cmpC b) = rwo a b :=
  Up.ext ordC (wo_up (sd_up a)) (rwo_up a b) fun x => by rw [wo_mem' (sd_up a) (sd_up b), rwo_mem, sd_mem, sd_mem]
theorem putA_up {l out : List Cl} (h : Up cmpC out) : Up cmpC (putA l out) := (ordF_spec ordC c0 (fun _ => true) l out h).1
theorem putA_mem {l out : List Cl} (h : Up cmpC out) (x : Cl) : x ∈ putA l out ↔ x ∈ out ∨ x ∈ l := by
  rw [putA, (ordF_spec ordC c0 (fun _ => true) l out h).2 x]
  simp
theorem join_eq (g k h c : List Cl) : joV g k h c = bothR g k h c := by
  unfold joV bothR
  refine Up.ext ordC (sd_up _) (putA_up (rwo_up _ _)) fun x => ?_
  rw [sd_mem, putA_mem (rwo_up _ _), List.mem_append, cmp_eq, cmp_eq]
theorem any_bad (l : List Cl) : (!l.any badB) = l.all validC := by
  induction l with
  | nil => rfl
  | cons c l ih => simp only [List.any_cons, List.all_cons, Bool.not_or, ih, badB, Bool.not_not]
theorem vv_rv (g m : List Cl) : vv g m = rv g m := by
  unfold vv rv okL
  rw [any_bad, any_bad]
  cases hg : ascB g with
  | false => simp
  | true =>
    cases hm : ascB m with
    | false => simp
    | true =>
      rw [wo_rwo (asc_up.1 (ascB_iff.1 hg)) (asc_up.1 (ascB_iff.1 hm))]
      simp
theorem wo_filter {a b : List Cl} (ha : Up cmpC a) (hb : Up cmpC b) : wo a b = a.filter (fun x => !decide (x ∈ b)) :=
  Up.ext ordC (wo_up ha) (ha.sublist List.filter_sublist) fun x => by rw [wo_mem' ha hb, List.mem_filter]; simp
theorem in_comm {a b : List Cl} (ha : Up cmpC a) (hb : Up cmpC b) : a.filter (fun x => decide (x ∈ b)) = b.filter (fun x => decide (x ∈ a)) :=
  Up.ext ordC (ha.sublist List.filter_sublist) (hb.sublist List.filter_sublist) fun x => by
    rw [List.mem_filter, List.mem_filter]; simp; exact And.comm
theorem split_len (p : Cl → Bool) (l : List Cl) : (l.filter p).length + (l.filter fun x => !p x).length = l.length := by
  induction l with
  | nil => rfl
  | cons c l ih =>
    cases h : p c with
    | true => simp [h]; omega
    | false => simp [h]; omega
theorem wo_all {a b : List Cl} (ha : Up cmpC a) (hb : Up cmpC b) : (wo a b).length + b.length = a.length ↔ ∀ x ∈ b, x ∈ a := by
  have h1 := split_len (fun x => decide (x ∈ b)) a
  rw [in_comm ha hb, ← wo_filter ha hb] at h1
  have h2 : (b.filter fun x => decide (x ∈ a)).length = b.length ↔ ∀ x ∈ b, decide (x ∈ a) = true := List.length_filter_eq_length_iff
  simp only [decide_eq_true_iff] at h2
  rw [← h2]
  omega
theorem wo_none {a b : List Cl} (ha : Up cmpC a) (hb : Up cmpC b) : (wo a b).length = a.length ↔ ∀ x ∈ a, x ∉ b := by
  rw [wo_filter ha hb]
  have h2 : (a.filter fun x => !decide (x ∈ b)).length = a.length ↔ ∀ x ∈ a, (!decide (x ∈ b)) = true := List.length_filter_eq_length_iff
  rw [h2]
  simp
theorem apply_eq (c g m : List Cl) : apV c g m = apR c g m := by
  unfold apV apR
  rw [vv_rv]
  by_cases h : ascB c = true ∧ rv g m = true
  · rw [if_pos h, if_pos h]
    have hc : Up cmpC c := asc_up.1 (ascB_iff.1 h.1)
    have hr := h.2
    unfold rv okL at hr
    simp only [Bool.and_eq_true] at hr
    have hg : Up cmpC g := asc_up.1 (ascB_iff.1 hr.1.2)
    have hm : Up cmpC m := asc_up.1 (ascB_iff.1 hr.2.1.2)
    by_cases h1 : ∀ x ∈ g, x ∈ c
    · rw [if_pos h1, if_pos ((wo_all hc hg).2 h1)]
      by_cases h2 : ∀ x ∈ m, x ∉ c
      · rw [if_pos h2, if_pos ((wo_none hm hc).2 h2)]
        congr 1
        refine Up.ext ordC (sd_up _) (putA_up (rwo_up _ _)) fun x => ?_
        rw [sd_mem, putA_mem (rwo_up _ _), List.mem_append, wo_rwo hc hg]
      · rw [if_neg h2, if_neg (fun h3 => h2 ((wo_none hm hc).1 h3))]
    · rw [if_neg h1, if_neg (fun h3 => h1 ((wo_all hc hg).1 h3))]
  · rw [if_neg h, if_neg h]
end Go.Proofs.YtcelmhkpcdhneaaGreat
namespace Go.Proofs.YtcelmhkpcdhneaaGreat
open Go.Own
attribute [local irreducible] St Ops Go.Own.Fin Ok OkB OkN
theorem sBytes : SlcT Tryz.prog 22 5 1 1 (.int .u8 0) := SlcT.of Tryz.underlying22 (by kernel_rfl) rfl (by decide)
theorem lBytes : Ld1 Tryz.prog 22 := Ld1.of _ Tryz.underlying22 rfl
theorem lU8 : Ld1 Tryz.prog 5 := Ld1.of _ Tryz.underlying5 rfl
theorem uU8 : Tryz.prog.underlying 5 = some (.int .u8) := Tryz.underlying5
theorem uInt : Tryz.prog.underlying 3 = some (.int .i64) := Tryz.underlying3
theorem fC0 : fldInfo Tryz.prog 82 0 = some (0, some 1) := by kernel_rfl
theorem fC1 : fldInfo Tryz.prog 82 1 = some (1, some 1) := by kernel_rfl
theorem bCodes : bInfo Tryz.prog 82 = some (.agg #[.slice none 0 0, .int .i64 0], [(0, some 1), (1, some 1)]) := by kernel_rfl
abbrev bytesC (bs : List Int) : CT := .fr (sliceT 1 (bs.map fun b => [CT.ex (.int .u8 b)]))
abbrev codes (bs : List Int) (p : Nat) : List CT := [bytesC bs, intC p]
structure Bytes (bs : List Int) : Prop where
  lo : ∀ b ∈ bs, 0 ≤ b
  hi : ∀ b ∈ bs, b < 256
  len : bs.length ≤ 400
theorem bytes_at {bs : List Int} {j : Int} (h0 : 0 ≤ j) (h : j < (bs.length : Int)) : (bs.map fun b => [CT.ex (.int .u8 b)])[j.toNat]? = some [CT.ex (.int .u8 (bs.getD j.toNat 0))] := by
  have hl : j.toNat < bs.length := by omega
  rw [List.getElem?_map, List.getElem?_eq_getElem hl, List.getD_eq_getElem?_getD, List.getElem?_eq_getElem hl]; rfl
theorem Bytes.at {bs : List Int} (h : Bytes bs) (j : Nat) : 0 ≤ bs.getD j 0 ∧ bs.getD j 0 < 256 := by
  rw [List.getD_eq_getElem?_getD]
  cases e : bs[j]? with
  | none => simp
  | some b =>
    have := List.mem_of_getElem? e; exact ⟨h.lo b this, h.hi b this⟩
theorem goNext : InGo Tryz.prog 9 := InGo.of Tryz.func9 rfl (by decide)
set_option maxHeartbeats 2000000 in
theorem Next_ok (bs : List Int) (p : Nat) (n : Int) (h1 : 1 ≤ n) (h2 : n ≤ 256) (hb : Bytes bs) :
    OkB Tryz.prog 9 82 (codes bs p) [intC n] (fun q : Int × Nat => 0 ≤ q.1 ∧ q.1 < n) (fun q => intC q.1) (fun q => codes bs q.2) := by
  have hlen := hb.len
  refine OkB.enter Tryz.func9 J _ Tryz.ntmps9 J ?_
  intro S w g; refine Qw (Qx fun K hK => ?_); refine Qy J J J (Qv (hK _ _ (Qq (Qw (Qw ?_))))); clear hK K; refine Qp mixed 14 (.p 0 (.p 1 (.p 2 (.p 4 (.p 5 (.p 6 (.f 3 (.f 7 (.p 8 (.p 9 (.p 10 (.p 11 (.p 12 (.p 13 .done)))))))))))))) (by kernel_rfl) (fun K hK => ?_); refine Qz J J J (Xc J J J J (Qu J J J fC1 J (Qz J J J (Xc J J J J (Qu J J J fC0 J (QQ J J J J J lInt J (QQ J J J J J lBytes J (Qd J J sBytes.und (List.length_map ..) J (Qk igeq J J J J (Qz J J J (Q8 16 J (fun h => ?_) (fun h => ?_))))))))))))
  · refine Qj J J J (Qj J J J (QZ J J J J (Qv (hK _ _ (Qq (Qc J (Qw ?_))))))); clear hK K; refine Qx (fun K hK => ?_); refine Qy J J J (Qv (hK _ _ (Qq (Q0 (QV ?_))))); clear hK K; refine Xe (0, p) [_] rfl (QJ J QX) J J ⟨by show (0 : Int) ≤ 0; omega, by show (0 : Int) < n; omega⟩
  · refine Qz J J J (Qk ilss J J J J (Q2 J J J J (Qv (hK _ _ (Qq ?_))))); clear hK K; refine Q7 J (fun h' => ?_) (fun h' => ?_)
    · exact absurd h' (by omega)
    · refine Q5 (Qq (Qw ?_)); refine Qp mixed 12 (.p 0 (.p 1 (.p 2 (.p 4 (.p 5 (.p 6 (.f 3 (.f 7 (.p 8 (.f 9 (.p 10 (.p 11 .done)))))))))))) (by kernel_rfl) (fun K hK => ?_); refine Qz J J J (Xc J J J J (Qu J J J fC0 J (Qz J J J (Xc J J J J (Qu J J J fC1 J (QQ J J J J J lBytes J (QQ J J J J J lInt J (Ql J J J sBytes (by omega) (bytes_at (by omega) (by omega)) J ?_))))))))
      refine Zv J J J lU8 J ?_
      have hx := hb.at p; generalize he : bs.getD p 0 = x at hx
      refine Zj (q := x) J J uU8 uInt (by rw [Int.toNat_natCast, he]; exact Zi (by omega) (by omega)) J ?_
      refine Qy J J J (Qv (hK _ _ (Qq (Qw ?_)))); clear hK K; refine Qx (fun K hK => ?_); refine Qz J J J (Xc J J J J (Qu J J J fC1 J (QQ J J J J J lInt J (Qk (iadd (by omega) (by omega)) J J J J ?_)))); refine Xc J J J J (Qu J J J fC1 J (XX J J J J J zInt (by simp [Ent.cs]) ?_)); refine Qv (hK _ _ (Qq (Qw (Qw ?_)))); clear hK K; refine Qx (fun K hK => ?_); refine Qz J J J (Qk igtr J J J J (Qv (hK _ _ (Qq ?_)))); clear hK K; refine Q7 J (fun h' => ?_) (fun h' => ?_)
      · exact absurd h' (by omega)
      · refine Q5 (Qq (Qw (Qx fun K hK => ?_))); refine Qz J J J (Qz J J J (Qk (irem (by omega) (by omega)) J J J J ?_)); refine Qy J J J (Qv (hK _ _ (Qq (Q0 ?_)))); clear hK K; refine Xe (x % n, p + 1) [_] rfl (QJ J QX) J J ⟨Int.emod_nonneg _ (by omega), Int.emod_lt_of_pos _ (by omega)⟩
theorem goNew : InGo Tryz.prog 27 := InGo.of Tryz.func27 rfl (by decide)
theorem New_ok (bs : List Int) : OkN Tryz.prog 27 [bytesC bs, intC 400] 82 (codes (bs.take 400) 0) := by
  refine OkN.enter Tryz.func27 J _ Tryz.ntmps27 J ?_
  intro S w; refine Qw (Qx fun K hK => ?_); refine Qy J J J (Qv (hK _ _ (Qq (Qw (Qw ?_))))); clear hK K; refine Qx (fun K hK => ?_); refine Qz J J J (Qd J J sBytes.und (List.length_map ..) J (Qz J J J (Qk igtr J J J J (Qv (hK _ _ (Qq ?_)))))); clear hK K; refine Q7 J (fun h' => ?_) (fun h' => ?_)
  · refine Qx (fun K hK => ?_); refine Qz J J J (Qz J J J (Ops.cutHi J J J sBytes (by omega) (by rw [List.length_map]; omega) J ?_)); rw [← List.map_take]; refine Qy J J J (Qv (hK _ _ (Qq (Qw ?_)))); clear hK K; refine Qx (fun K hK => ?_); refine Qz J J J (Xq J bCodes J (.one J J J J .nil) J (Qf 0 J J J J J J J (Qy J J J (Qv (hK _ _ (Qq (Q0 ?_))))))); clear hK K; refine Fin.retN J J J J
  · refine Q5 (Qq (Qw (Qx fun K hK => ?_))); refine Qz J J J (Xq J bCodes J (.one J J J J .nil) J (Qf 0 J J J J J J J (Qy J J J (Qv (hK _ _ (Qq (Q0 ?_))))))); clear hK K; refine Fin.retN J J (by rw [List.take_of_length_le (by omega)]; rfl) J
theorem goRoll : InGo Tryz.prog 5 := InGo.of Tryz.func5 rfl (by decide)
theorem Roll_ok (bs : List Int) : OkN Tryz.prog 5 [bytesC bs] 82 (codes (bs.take 400) 0) := by
  refine OkN.enter Tryz.func5 J _ Tryz.ntmps5 J ?_
  intro S w; refine Qw (Qx fun K hK => ?_); refine Qy J J J (Qv (hK _ _ (Qq (Qw ?_)))); clear hK K; refine Qx (fun K hK => ?_); refine Qz J J J (Ops.callN 0 goNew (New_ok bs) J J J J J J (Qy J J J (Qv (hK _ _ (Qq (Q0 ?_)))))); clear hK K; refine Fin.retN J J J J
theorem goPick : InGo Tryz.prog 30 := InGo.of Tryz.func30 rfl (by decide)
theorem Pick_ok (bs : List Int) (p : Nat) (xs : List Int) (h1 : 1 ≤ xs.length) (h2 : xs.length ≤ 256) (hb : Bytes bs) :
    OkB Tryz.prog 30 82 (codes bs p) [intsC xs] (fun q : Int × Nat => q.1 ∈ xs) (fun q => intC q.1) (fun q => codes bs q.2) := by
  refine OkB.enter Tryz.func30 J _ Tryz.ntmps30 J ?_
  intro S w g; refine Qw (Qx fun K hK => ?_); refine Qy J J J (Qv (hK _ _ (Qq (Qw ?_)))); clear hK K; refine Qx (fun K hK => ?_); refine Qz J J J (Qz J J J (Qz J J J (Qd J J sInts.und (List.length_map ..) J (Q9 goNext (Next_ok bs p xs.length (by omega) (by omega) hb) J J J J J (fun q hq => ?_))))); obtain ⟨x, p'⟩ := q; dsimp only at hq
  refine Ql J J J sInts (by omega) (ints_at (by omega) (by omega)) J ?_
  refine Zv J J J lInt J (Qy J J J (Qv (hK _ _ (Qq (Q0 ?_))))); clear hK K
  refine Xe (xs.getD x.toNat 0, p') [_] rfl (QJ J QX) J J ?_
  show xs.getD x.toNat 0 ∈ xs
  have hl : x.toNat < xs.length := by omega
  rw [List.getD_eq_getElem?_getD, List.getElem?_eq_getElem hl]; exact List.getElem_mem hl
attribute [local irreducible] OkF OkL OkT wpR
theorem wrap_u32 {n : Int} (h1 : 0 ≤ n) (h2 : n < 4294967296) : IntKind.u32.wrap n = n := by
  rw [show IntKind.u32.wrap n = n % 4294967296 by simp [IntKind.wrap, IntKind.bits, IntKind.signed]]; omega
theorem add32 {p q : Int} (h1 : 0 ≤ p + q) (h2 : p + q < 4294967296) : IBin .add .u32 p .u32 q (.int .u32 (p + q)) := .of fun P t w => by
  show (Op.intArith .add .u32 p q).run P w = _
  simp [Op.intArith, wrap_u32 h1 h2]
theorem goAddress : InGo Tryz.prog 32 := InGo.of Tryz.func32 rfl (by decide)
theorem Address_ok (bs : List Int) (p : Nat) (hb : Bytes bs) : OkB Tryz.prog 32 82 (codes bs p) [] (fun q : Int × Nat => 0 ≤ q.1 ∧ q.1 < 200000000) (fun q => adrC q.1) (fun q => codes bs q.2) := by
  refine OkB.enter Tryz.func32 rfl _ Tryz.ntmps32 rfl ?_
  intro S w g
  (refine Qw (Qx fun K hK => ?_); refine Qy rfl rfl rfl ?_; refine Qv (hK _ _ (Qq (Qw ?_))); clear hK K; refine Qx (fun K hK => ?_); refine Qz rfl rfl rfl ?_)
  refine Za (m := 8) (cs := ints [1, 2, 5, 6, 9, 10, 12, 13]) rfl rfl (by with_reducible exact sInts) (.one rfl rfl rfl rfl (.one rfl rfl rfl rfl (.one rfl rfl rfl rfl (.one rfl rfl rfl rfl (.one rfl rfl rfl rfl (.one rfl rfl rfl rfl (.one rfl rfl rfl rfl (.one rfl rfl rfl rfl .nil)))))))) (by decide) rfl ?_
  refine Q9 goPick (Pick_ok bs p [1, 2, 5, 6, 9, 10, 12, 13] (by decide) (by decide) hb) rfl rfl rfl rfl rfl (fun q hq => ?_)
  obtain ⟨x, p1⟩ := q
  have hx : 1 ≤ x ∧ x ≤ 13 := by
    simp only [List.mem_cons, List.not_mem_nil, or_false] at hq
    omega
  dsimp only
  (refine Qk (iadd (by omega) (by omega)) rfl rfl rfl rfl ?_)
  refine Zj (q := 167772160 + x) rfl rfl (by with_reducible exact uInt) (by with_reducible exact uAddr) (wrap_u32 (by omega) (by omega)) rfl ?_
  (refine Qy rfl rfl rfl ?_; refine Qv (hK _ _ (Qq (Q0 ?_))); clear hK K)
  refine Xe (167772160 + x, p1) [_] rfl (QJ rfl QX) rfl rfl ⟨by show 0 ≤ 167772160 + x; omega, by show 167772160 + x < 200000000; omega⟩
theorem zvEv : (Tryz.prog.info? 88).map (·.zero) = some (some (.agg #[.int .i64 0, .int .u32 0, .int .u32 0, .slice none 0 0])) := by kernel_rfl
theorem lEv : LdN Tryz.prog 88 4 := LdN.of _ Tryz.underlying88 rfl (by kernel_rfl)
theorem szEv : (Tryz.prog.info? 88).map (·.size) = some 4 := by kernel_rfl
theorem bEv : bInfo Tryz.prog 88 = some (.agg #[.int .i64 0, .int .u32 0, .int .u32 0, .slice none 0 0], [(0, some 1), (1, some 1), (2, some 1), (3, some 1)]) := by kernel_rfl
theorem fE1 : fldInfo Tryz.prog 88 1 = some (1, some 1) := by kernel_rfl
theorem fE2 : fldInfo Tryz.prog 88 2 = some (2, some 1) := by kernel_rfl
theorem fE3 : fldInfo Tryz.prog 88 3 = some (3, some 1) := by kernel_rfl
theorem lIDs : Ld1 Tryz.prog 86 := Ld1.of _ Tryz.underlying86 rfl
theorem zIDs : (Tryz.prog.info? 86).map (·.size) = some 1 := by kernel_rfl
theorem bID : bInfo Tryz.prog 107 = some (.agg #[.int .i64 0, .int .i64 0, .int .i64 0], [(0, some 1), (1, some 1), (2, some 1)]) := by kernel_rfl
theorem sIDs : SlcT Tryz.prog 86 107 3 24 (.agg #[.int .i64 0, .int .i64 0, .int .i64 0]) := SlcT.of Tryz.underlying86 (by kernel_rfl) rfl (by decide)
abbrev idCs (n : Int) : List CT := [intC 0, intC 0, intC n]
def idr (ns : List Int) : List CT := (ns.map idCs).flatten
theorem idr_len (ns : List Int) : (idr ns).length = ns.length * 3 := by
  unfold idr
  rw [X6 (k := 3) (fun e he => by obtain ⟨m, _, rfl⟩ := List.mem_map.mp he; rfl)]; simp
theorem idr_snoc (ns : List Int) (n : Int) : idr (ns ++ [n]) = idr ns ++ idCs n := by simp [idr]
theorem idr_frozen (e : Nat) (ns : List Int) : (Ent.row e 3 (idr ns)).frozen (sliceT 3 (ns.map idCs)) :=
  ⟨_, rfl, fun e he => by obtain ⟨m, _, rfl⟩ := List.mem_map.mp he; rfl, by decide, rfl⟩
structure Ev where
  k : Int
  a : Int
  b : Int
  ns : List Int
  p : Nat
abbrev evCs (e : Ev) : List CT := [intC e.k, adrC e.a, adrC e.b, .fr (sliceT 3 (e.ns.map idCs))]
def EvIn (e : Ev) : Prop := 0 ≤ e.a ∧ e.a < 300000000 ∧ 0 ≤ e.b ∧ e.b < 300000000
theorem goEvidence : InGo Tryz.prog 37 := InGo.of Tryz.func37 rfl (by decide)
set_option maxHeartbeats 4000000 in
theorem Evidence_ok (bs : List Int) (p : Nat) (hb : Bytes bs) : OkB Tryz.prog 37 82 (codes bs p) [] EvIn (fun q => .fr (aggT (evCs q))) (fun q => codes bs q.p) := by
  refine OkB.enter Tryz.func37 rfl _ Tryz.ntmps37 rfl ?_
  intro S w g
  (refine Qw (Qx fun K hK => ?_); refine Qo 1 rfl rfl (by with_reducible exact zvEv) rfl rfl rfl ?_; refine Qv (hK _ _ (Qq (Qw ?_))); clear hK K; refine Qx (fun K hK => ?_); refine Qz rfl rfl rfl ?_)
  refine Q9 goNext (Next_ok bs p 3 (by decide) (by decide) hb) rfl rfl rfl rfl rfl (fun q hq => ?_)
  obtain ⟨k0, p1⟩ := q
  dsimp only at hq ⊢
  (refine Qk (iadd (by omega) (by omega)) rfl rfl rfl rfl ?_; refine Qz rfl rfl rfl ?_)
  refine Q9 goAddress (Address_ok bs p1 hb) rfl rfl rfl rfl rfl (fun q hq1 => ?_)
  obtain ⟨a, p2⟩ := q
  dsimp only at hq1 ⊢
  (refine Qz rfl rfl rfl ?_)
  refine Q9 goAddress (Address_ok bs p2 hb) rfl rfl rfl rfl rfl (fun q hq2 => ?_)
  obtain ⟨b, p3⟩ := q
  dsimp only at hq2 ⊢
  refine Xq rfl (by with_reducible exact bEv) rfl (.one rfl rfl rfl rfl (.one rfl rfl rfl rfl (.one rfl rfl rfl rfl .nil))) rfl ?_
  (refine Qo 2 rfl rfl (by with_reducible exact zvEv) rfl rfl rfl ?_; refine Qr 4 rfl rfl rfl rfl rfl (by with_reducible first | exact szAtlas | exact szEv) rfl rfl ?_; refine Qv (hK _ _ (Qq (Qw (Qw ?_)))); clear hK K; refine Qx (fun K hK => ?_); refine Qu rfl rfl rfl (by with_reducible first | exact fK0 | exact fK1 | exact fK2 | exact fK3 | exact fK4 | exact fK5 | exact fK6 | exact fE0 | exact fE1 | exact fE2 | exact fE3 | exact fA0 | exact fD0 | exact fD1) rfl ?_; refine QQ rfl rfl rfl rfl rfl (by with_reducible first | exact lInt | exact QU | exact QW | exact QY | exact lIDs) rfl ?_; refine Qu rfl rfl rfl (by with_reducible first | exact fK0 | exact fK1 | exact fK2 | exact fK3 | exact fK4 | exact fK5 | exact fK6 | exact fE0 | exact fE1 | exact fE2 | exact fE3 | exact fA0 | exact fD0 | exact fD1) rfl ?_; refine QQ rfl rfl rfl rfl rfl (by with_reducible first | exact lInt | exact QU | exact QW | exact QY | exact lIDs) rfl ?_; refine Qk ieql rfl rfl rfl rfl ?_; refine Qv (hK _ _ (Qq ?_)); clear hK K)
  refine Q7 rfl (fun hab => ?_) (fun hab => ?_)
  · (refine Qx (fun K hK => ?_); refine Qu rfl rfl rfl (by with_reducible first | exact fK0 | exact fK1 | exact fK2 | exact fK3 | exact fK4 | exact fK5 | exact fK6 | exact fE0 | exact fE1 | exact fE2 | exact fE3 | exact fA0 | exact fD0 | exact fD1) rfl ?_; refine QQ rfl rfl rfl rfl rfl (by with_reducible first | exact lInt | exact QU | exact QW | exact QY | exact lIDs) rfl ?_)
    refine Qk (add32 (by omega) (by omega)) rfl rfl rfl rfl ?_
    have hA : 0 ≤ min a (b + 1) ∧ min a (b + 1) < 300000000 := by omega
    have hB : 0 ≤ max a (b + 1) ∧ max a (b + 1) < 300000000 := by omega
    (refine Qu rfl rfl rfl (by with_reducible first | exact fK0 | exact fK1 | exact fK2 | exact fK3 | exact fK4 | exact fK5 | exact fK6 | exact fE0 | exact fE1 | exact fE2 | exact fE3 | exact fA0 | exact fD0 | exact fD1) rfl ?_; refine XX rfl rfl rfl rfl rfl (by with_reducible first | exact zInt | exact Zy | exact zClaims) (Nat.le_of_ble_eq_true rfl) ?_; refine Qv (hK _ _ (Qq (Qw ?_))); clear hK K; refine Qx (fun K hK => ?_); refine Qu rfl rfl rfl (by with_reducible first | exact fK0 | exact fK1 | exact fK2 | exact fK3 | exact fK4 | exact fK5 | exact fK6 | exact fE0 | exact fE1 | exact fE2 | exact fE3 | exact fA0 | exact fD0 | exact fD1) rfl ?_; refine QQ rfl rfl rfl rfl rfl (by with_reducible first | exact lInt | exact QU | exact QW | exact QY | exact lIDs) rfl ?_; refine Qu rfl rfl rfl (by with_reducible first | exact fK0 | exact fK1 | exact fK2 | exact fK3 | exact fK4 | exact fK5 | exact fK6 | exact fE0 | exact fE1 | exact fE2 | exact fE3 | exact fA0 | exact fD0 | exact fD1) rfl ?_; refine QQ rfl rfl rfl rfl rfl (by with_reducible first | exact lInt | exact QU | exact QW | exact QY | exact lIDs) rfl ?_; refine Ops.min2k rfl rfl rfl rfl ?_; refine Qu rfl rfl rfl (by with_reducible first | exact fK0 | exact fK1 | exact fK2 | exact fK3 | exact fK4 | exact fK5 | exact fK6 | exact fE0 | exact fE1 | exact fE2 | exact fE3 | exact fA0 | exact fD0 | exact fD1) rfl ?_; refine QQ rfl rfl rfl rfl rfl (by with_reducible first | exact lInt | exact QU | exact QW | exact QY | exact lIDs) rfl ?_; refine Qu rfl rfl rfl (by with_reducible first | exact fK0 | exact fK1 | exact fK2 | exact fK3 | exact fK4 | exact fK5 | exact fK6 | exact fE0 | exact fE1 | exact fE2 | exact fE3 | exact fA0 | exact fD0 | exact fD1) rfl ?_; refine QQ rfl rfl rfl rfl rfl (by with_reducible first | exact lInt | exact QU | exact QW | exact QY | exact lIDs) rfl ?_; refine Ops.max2k rfl rfl rfl rfl ?_; refine Qu rfl rfl rfl (by with_reducible first | exact fK0 | exact fK1 | exact fK2 | exact fK3 | exact fK4 | exact fK5 | exact fK6 | exact fE0 | exact fE1 | exact fE2 | exact fE3 | exact fA0 | exact fD0 | exact fD1) rfl ?_; refine XX rfl rfl rfl rfl rfl (by with_reducible first | exact zInt | exact Zy | exact zClaims) (Nat.le_of_ble_eq_true rfl) ?_; refine Qu rfl rfl rfl (by with_reducible first | exact fK0 | exact fK1 | exact fK2 | exact fK3 | exact fK4 | exact fK5 | exact fK6 | exact fE0 | exact fE1 | exact fE2 | exact fE3 | exact fA0 | exact fD0 | exact fD1) rfl ?_; refine XX rfl rfl rfl rfl rfl (by with_reducible first | exact zInt | exact Zy | exact zClaims) (Nat.le_of_ble_eq_true rfl) ?_; refine Qv (hK _ _ (Qq (Qw ?_))); clear hK K; refine Qx (fun K hK => ?_); refine Qz rfl rfl rfl ?_)
    generalize min a (b + 1) = A at hA
    generalize max a (b + 1) = Bv at hB
    refine Q9 goNext (Next_ok bs p3 5 (by decide) (by decide) hb) rfl rfl rfl rfl rfl (fun q hq3 => ?_)
    obtain ⟨n0, p4⟩ := q
    dsimp only at hq3 ⊢
    (refine Qy rfl rfl rfl ?_; refine Qv (hK _ _ (Qq (Qw (Qw ?_)))); clear hK K; refine Qx (fun K hK => ?_); refine Qz rfl rfl rfl ?_)
    refine Q9 goNext (Next_ok bs p4 3 (by decide) (by decide) hb) rfl rfl rfl rfl rfl (fun q hq4 => ?_)
    obtain ⟨k1, p5⟩ := q
    dsimp only at hq4 ⊢
    (refine Qy rfl rfl rfl ?_; refine Qv (hK _ _ (Qq (Q4 ?_))); clear hK K)
    refine St.nilX 3 107 3 rfl rfl ?_
    refine Qt (α := Int × Int × List Int × Value × Nat) (fun x => -1 ≤ x.1 ∧ x.1 < 3 ∧ 0 ≤ x.2.1 ∧ x.2.1 + 3 * x.1 ≤ 20 ∧ x.2.2.1.length + x.1 ≤ 10 ∧ x.2.2.2.1.oneCell' = true)
      (fun x => [(0, .own 0), (2, .own 1), (3, .own 2), (4, .ct (intC x.2.1)), (5, .ct (intC x.1))])
      (fun x => [(3, .rowx x.2.2.2.1 107 3 (idr x.2.2.1)), (2, .box 88 [intC (1 + k0), adrC A, adrC Bv, .ex x.2.2.2.1]), (1, .box 88 [intC 0, adrC 0, adrC 0, .ex (.slice none 0 0)]), (0, .box 82 (codes bs x.2.2.2.2))]) (fun x => (x.1 + 1).toNat) (k1, n0, [], .slice none 0 0, p5) ⟨by dsimp only; omega, by dsimp only; omega, by dsimp only; omega, by dsimp only; omega, by simp; omega, rfl⟩ (by exact QK rfl ⟨rfl, rfl, rfl, rfl, rfl, trivial⟩) ?_
    rintro ⟨k, n, ns, v, p6⟩ ⟨hk1, hk2, hn0, hn1, hns, hv⟩
    dsimp only at hk1 hk2 hn0 hn1 hns hv ⊢
    (refine Qw (Qw (Qx fun K hK => ?_)); refine Qz rfl rfl rfl ?_; refine Qk igeq rfl rfl rfl rfl ?_; refine Qv (hK _ _ (Qq ?_)); clear hK K)
    refine Q7 rfl (fun hk => ?_) (fun hk => ?_)
    · (refine Q5 (Qq (Qw (Q4 (Qw (Qx fun K hK => ?_))))); refine Qz rfl rfl rfl ?_; refine Qz rfl rfl rfl ?_)
      refine Q9 goNext (Next_ok bs p6 3 (by decide) (by decide) hb) rfl rfl rfl rfl rfl (fun q hq5 => ?_)
      obtain ⟨r, p7⟩ := q
      dsimp only at hq5 ⊢
      (refine Qk (iadd (by omega) (by omega)) rfl rfl rfl rfl ?_; refine Qk (iadd (by omega) (by omega)) rfl rfl rfl rfl ?_; refine Qy rfl rfl rfl ?_; refine Qv (hK _ _ (Qq ?_)); clear hK K; refine Qx (fun K hK => ?_); refine Qu rfl rfl rfl (by with_reducible first | exact fK0 | exact fK1 | exact fK2 | exact fK3 | exact fK4 | exact fK5 | exact fK6 | exact fE0 | exact fE1 | exact fE2 | exact fE3 | exact fA0 | exact fD0 | exact fD1) rfl ?_; refine QQ rfl rfl rfl rfl rfl (by with_reducible first | exact lInt | exact QU | exact QW | exact QY | exact lIDs) rfl ?_; refine Qz rfl rfl rfl ?_)
      refine Xq rfl (by with_reducible exact bID) rfl (.one rfl rfl rfl rfl .nil) rfl ?_
      refine Xm (n := 3) rfl rfl (by with_reducible exact sIDs) rfl rfl (by decide) rfl ?_
      refine Ops.link 49 3 rfl rfl ?_
      refine Xk ns.length (idr (ns ++ [n + (1 + r)])) rfl rfl rfl rfl (by with_reducible exact sIDs) (idr_len ns) rfl (by omega) (by omega) (idr_snoc ns (n + (1 + r))) rfl ?_
      (refine Qu rfl rfl rfl (by with_reducible first | exact fK0 | exact fK1 | exact fK2 | exact fK3 | exact fK4 | exact fK5 | exact fK6 | exact fE0 | exact fE1 | exact fE2 | exact fE3 | exact fA0 | exact fD0 | exact fD1) rfl ?_)
      refine Ops.name 53 3 rfl rfl (fun v' hv' => ?_)
      refine XX (c := .ex v') rfl rfl rfl rfl hv' (by with_reducible exact zIDs) (Nat.le_of_ble_eq_true rfl) ?_
      (refine Qv (hK _ _ (Qq ?_)); clear hK K; refine Qx (fun K hK => ?_); refine Qz rfl rfl rfl ?_; refine Qk (isub (by omega) (by omega)) rfl rfl rfl rfl ?_; refine Qy rfl rfl rfl ?_; refine Qv (hK _ _ (Qa ?_)); clear hK K)
      refine Qg (k - 1, n + (1 + r), ns ++ [n + (1 + r)], v', p7) (by dsimp only; omega) ⟨by dsimp only; omega, by dsimp only; omega, by dsimp only; omega, by dsimp only; omega, by simp; omega, hv'⟩ (by exact QK rfl ⟨rfl, rfl, rfl, rfl, rfl, trivial⟩)
    · refine St.frzX 3 2 3 _ rfl rfl rfl (idr_frozen _ _) (Z4 rfl) ?_
      (refine Qh (Qq (Qw (Qx fun K hK => ?_))); refine Qm (n := 4) rfl rfl rfl rfl rfl (by with_reducible first | exact Zm | exact lEv) rfl ?_; refine Qr 4 rfl rfl rfl rfl rfl (by with_reducible first | exact szAtlas | exact szEv) rfl rfl ?_; refine Qv (hK _ _ (Qq (Q0 ?_))); clear hK K)
      refine Fin.endB ⟨1 + k0, A, Bv, ns, p6⟩ [_] rfl (X4 (n := 4) rfl rfl (by with_reducible exact lEv) rfl QX) rfl rfl ⟨hA.1, hA.2, hB.1, hB.2⟩
  · have hA : 0 ≤ min a (b) ∧ min a (b) < 300000000 := by omega
    have hB : 0 ≤ max a (b) ∧ max a (b) < 300000000 := by omega
    (refine Q5 (Qq (Qw (Qx fun K hK => ?_))); refine Qu rfl rfl rfl (by with_reducible first | exact fK0 | exact fK1 | exact fK2 | exact fK3 | exact fK4 | exact fK5 | exact fK6 | exact fE0 | exact fE1 | exact fE2 | exact fE3 | exact fA0 | exact fD0 | exact fD1) rfl ?_; refine QQ rfl rfl rfl rfl rfl (by with_reducible first | exact lInt | exact QU | exact QW | exact QY | exact lIDs) rfl ?_; refine Qu rfl rfl rfl (by with_reducible first | exact fK0 | exact fK1 | exact fK2 | exact fK3 | exact fK4 | exact fK5 | exact fK6 | exact fE0 | exact fE1 | exact fE2 | exact fE3 | exact fA0 | exact fD0 | exact fD1) rfl ?_; refine QQ rfl rfl rfl rfl rfl (by with_reducible first | exact lInt | exact QU | exact QW | exact QY | exact lIDs) rfl ?_; refine Ops.min2k rfl rfl rfl rfl ?_; refine Qu rfl rfl rfl (by with_reducible first | exact fK0 | exact fK1 | exact fK2 | exact fK3 | exact fK4 | exact fK5 | exact fK6 | exact fE0 | exact fE1 | exact fE2 | exact fE3 | exact fA0 | exact fD0 | exact fD1) rfl ?_; refine QQ rfl rfl rfl rfl rfl (by with_reducible first | exact lInt | exact QU | exact QW | exact QY | exact lIDs) rfl ?_; refine Qu rfl rfl rfl (by with_reducible first | exact fK0 | exact fK1 | exact fK2 | exact fK3 | exact fK4 | exact fK5 | exact fK6 | exact fE0 | exact fE1 | exact fE2 | exact fE3 | exact fA0 | exact fD0 | exact fD1) rfl ?_; refine QQ rfl rfl rfl rfl rfl (by with_reducible first | exact lInt | exact QU | exact QW | exact QY | exact lIDs) rfl ?_; refine Ops.max2k rfl rfl rfl rfl ?_; refine Qu rfl rfl rfl (by with_reducible first | exact fK0 | exact fK1 | exact fK2 | exact fK3 | exact fK4 | exact fK5 | exact fK6 | exact fE0 | exact fE1 | exact fE2 | exact fE3 | exact fA0 | exact fD0 | exact fD1) rfl ?_; refine XX rfl rfl rfl rfl rfl (by with_reducible first | exact zInt | exact Zy | exact zClaims) (Nat.le_of_ble_eq_true rfl) ?_; refine Qu rfl rfl rfl (by with_reducible first | exact fK0 | exact fK1 | exact fK2 | exact fK3 | exact fK4 | exact fK5 | exact fK6 | exact fE0 | exact fE1 | exact fE2 | exact fE3 | exact fA0 | exact fD0 | exact fD1) rfl ?_; refine XX rfl rfl rfl rfl rfl (by with_reducible first | exact zInt | exact Zy | exact zClaims) (Nat.le_of_ble_eq_true rfl) ?_; refine Qv (hK _ _ (Qq (Qw ?_))); clear hK K; refine Qx (fun K hK => ?_); refine Qz rfl rfl rfl ?_)
    generalize min a (b) = A at hA
    generalize max a (b) = Bv at hB
    refine Q9 goNext (Next_ok bs p3 5 (by decide) (by decide) hb) rfl rfl rfl rfl rfl (fun q hq3 => ?_)
    obtain ⟨n0, p4⟩ := q
    dsimp only at hq3 ⊢
    (refine Qy rfl rfl rfl ?_; refine Qv (hK _ _ (Qq (Qw (Qw ?_)))); clear hK K; refine Qx (fun K hK => ?_); refine Qz rfl rfl rfl ?_)
    refine Q9 goNext (Next_ok bs p4 3 (by decide) (by decide) hb) rfl rfl rfl rfl rfl (fun q hq4 => ?_)
    obtain ⟨k1, p5⟩ := q
    dsimp only at hq4 ⊢
    (refine Qy rfl rfl rfl ?_; refine Qv (hK _ _ (Qq (Q4 ?_))); clear hK K)
    refine St.nilX 3 107 3 rfl rfl ?_
    refine Qt (α := Int × Int × List Int × Value × Nat) (fun x => -1 ≤ x.1 ∧ x.1 < 3 ∧ 0 ≤ x.2.1 ∧ x.2.1 + 3 * x.1 ≤ 20 ∧ x.2.2.1.length + x.1 ≤ 10 ∧ x.2.2.2.1.oneCell' = true)
      (fun x => [(0, .own 0), (2, .own 1), (3, .own 2), (4, .ct (intC x.2.1)), (5, .ct (intC x.1))])
      (fun x => [(3, .rowx x.2.2.2.1 107 3 (idr x.2.2.1)), (2, .box 88 [intC (1 + k0), adrC A, adrC Bv, .ex x.2.2.2.1]), (1, .box 88 [intC 0, adrC 0, adrC 0, .ex (.slice none 0 0)]), (0, .box 82 (codes bs x.2.2.2.2))]) (fun x => (x.1 + 1).toNat) (k1, n0, [], .slice none 0 0, p5) ⟨by dsimp only; omega, by dsimp only; omega, by dsimp only; omega, by dsimp only; omega, by simp; omega, rfl⟩ (by exact QK rfl ⟨rfl, rfl, rfl, rfl, rfl, trivial⟩) ?_
    rintro ⟨k, n, ns, v, p6⟩ ⟨hk1, hk2, hn0, hn1, hns, hv⟩
    dsimp only at hk1 hk2 hn0 hn1 hns hv ⊢
    (refine Qw (Qw (Qx fun K hK => ?_)); refine Qz rfl rfl rfl ?_; refine Qk igeq rfl rfl rfl rfl ?_; refine Qv (hK _ _ (Qq ?_)); clear hK K)
    refine Q7 rfl (fun hk => ?_) (fun hk => ?_)
    · (refine Q5 (Qq (Qw (Q4 (Qw (Qx fun K hK => ?_))))); refine Qz rfl rfl rfl ?_; refine Qz rfl rfl rfl ?_)
      refine Q9 goNext (Next_ok bs p6 3 (by decide) (by decide) hb) rfl rfl rfl rfl rfl (fun q hq5 => ?_)
      obtain ⟨r, p7⟩ := q
      dsimp only at hq5 ⊢
      (refine Qk (iadd (by omega) (by omega)) rfl rfl rfl rfl ?_; refine Qk (iadd (by omega) (by omega)) rfl rfl rfl rfl ?_; refine Qy rfl rfl rfl ?_; refine Qv (hK _ _ (Qq ?_)); clear hK K; refine Qx (fun K hK => ?_); refine Qu rfl rfl rfl (by with_reducible first | exact fK0 | exact fK1 | exact fK2 | exact fK3 | exact fK4 | exact fK5 | exact fK6 | exact fE0 | exact fE1 | exact fE2 | exact fE3 | exact fA0 | exact fD0 | exact fD1) rfl ?_; refine QQ rfl rfl rfl rfl rfl (by with_reducible first | exact lInt | exact QU | exact QW | exact QY | exact lIDs) rfl ?_; refine Qz rfl rfl rfl ?_)
      refine Xq rfl (by with_reducible exact bID) rfl (.one rfl rfl rfl rfl .nil) rfl ?_
      refine Xm (n := 3) rfl rfl (by with_reducible exact sIDs) rfl rfl (by decide) rfl ?_
      refine Ops.link 49 3 rfl rfl ?_
      refine Xk ns.length (idr (ns ++ [n + (1 + r)])) rfl rfl rfl rfl (by with_reducible exact sIDs) (idr_len ns) rfl (by omega) (by omega) (idr_snoc ns (n + (1 + r))) rfl ?_
      (refine Qu rfl rfl rfl (by with_reducible first | exact fK0 | exact fK1 | exact fK2 | exact fK3 | exact fK4 | exact fK5 | exact fK6 | exact fE0 | exact fE1 | exact fE2 | exact fE3 | exact fA0 | exact fD0 | exact fD1) rfl ?_)
      refine Ops.name 53 3 rfl rfl (fun v' hv' => ?_)
      refine XX (c := .ex v') rfl rfl rfl rfl hv' (by with_reducible exact zIDs) (Nat.le_of_ble_eq_true rfl) ?_
      (refine Qv (hK _ _ (Qq ?_)); clear hK K; refine Qx (fun K hK => ?_); refine Qz rfl rfl rfl ?_; refine Qk (isub (by omega) (by omega)) rfl rfl rfl rfl ?_; refine Qy rfl rfl rfl ?_; refine Qv (hK _ _ (Qa ?_)); clear hK K)
      refine Qg (k - 1, n + (1 + r), ns ++ [n + (1 + r)], v', p7) (by dsimp only; omega) ⟨by dsimp only; omega, by dsimp only; omega, by dsimp only; omega, by dsimp only; omega, by simp; omega, hv'⟩ (by exact QK rfl ⟨rfl, rfl, rfl, rfl, rfl, trivial⟩)
    · refine St.frzX 3 2 3 _ rfl rfl rfl (idr_frozen _ _) (Z4 rfl) ?_
      (refine Qh (Qq (Qw (Qx fun K hK => ?_))); refine Qm (n := 4) rfl rfl rfl rfl rfl (by with_reducible first | exact Zm | exact lEv) rfl ?_; refine Qr 4 rfl rfl rfl rfl rfl (by with_reducible first | exact szAtlas | exact szEv) rfl rfl ?_; refine Qv (hK _ _ (Qq (Q0 ?_))); clear hK K)
      refine Fin.endB ⟨1 + k0, A, Bv, ns, p6⟩ [_] rfl (X4 (n := 4) rfl rfl (by with_reducible exact lEv) rfl QX) rfl rfl ⟨hA.1, hA.2, hB.1, hB.2⟩
theorem mem_snocC {P : Cl → Prop} {xs : List Cl} {x : Cl} (h : ∀ y ∈ xs, P y) (hx : P x) : ∀ y ∈ xs ++ [x], P y := fun y hy => by
  rcases List.mem_append.1 hy with h1 | h1
  · exact h y h1
  · rcases List.mem_singleton.1 h1 with rfl; exact hx
theorem goClaims : InGo Tryz.prog 13 := InGo.of Tryz.func13 rfl (by decide)
set_option maxHeartbeats 8000000 in
theorem Claims_ok (bs : List Int) (p : Nat) (most : Int) (h0 : 0 ≤ most) (h1 : most ≤ 100) (hb : Bytes bs) : OkB Tryz.prog 13 82 (codes bs p) [intC most] (fun q : List Cl × Nat => (q.1.length : Int) ≤ most ∧ ∀ c ∈ q.1, U c) (fun q => clsC q.1) (fun q => codes bs q.2) := by
  refine OkB.enter Tryz.func13 rfl _ Tryz.ntmps13 rfl ?_
  intro S w g
  (refine Qw (Qx fun K hK => ?_); refine Qy rfl rfl rfl ?_; refine Qv (hK _ _ (Qq (Qw ?_))); clear hK K; refine Qx (fun K hK => ?_); refine Qy rfl rfl rfl ?_; refine Qv (hK _ _ (Qq (Qw (Qw ?_)))); clear hK K; refine Qx (fun K hK => ?_); refine Qz rfl rfl rfl ?_; refine Qz rfl rfl rfl ?_; refine Qk (iadd (by omega) (by omega)) rfl rfl rfl rfl ?_)
  refine Q9 goNext (Next_ok bs p (most + 1) (by omega) (by omega) hb) rfl rfl rfl rfl rfl (fun q hq => ?_)
  obtain ⟨k0, p1⟩ := q
  dsimp only at hq ⊢
  (refine Qy rfl rfl rfl ?_; refine Qv (hK _ _ (Qq (Q4 ?_))); clear hK K)
  refine Zf 5 1 62 7 rfl rfl rfl ?_
  refine Qt (α := Int × List Cl × Nat) (fun x => 0 ≤ x.1 ∧ x.2.1.length + x.1 ≤ most ∧ ∀ c ∈ x.2.1, U c)
    (fun x => [(0, .own 0), (5, .own 1), (6, .ct (intC x.1))]) (fun x => [(1, .row 62 7 (cls x.2.1)), (0, .box 82 (codes bs x.2.2))]) (fun x => x.1.toNat) (k0, [], p1) ⟨by omega, by simp; omega, by simp⟩ (by exact QK rfl ⟨rfl, rfl, rfl, trivial⟩) ?_
  rintro ⟨k, out, p2⟩ ⟨hk0, hkl, hout⟩
  dsimp only at hk0 hkl hout ⊢
  (refine Qw (Qw (Qx fun K hK => ?_)); refine Qz rfl rfl rfl ?_; refine Qk igtr rfl rfl rfl rfl ?_; refine Qv (hK _ _ (Qq ?_)); clear hK K)
  refine Q7 rfl (fun hk => ?_) (fun hk => ?_)
  · (refine Q5 (Qq (Qw (Q4 (Qw (Qx fun K hK => ?_))))); refine Qz rfl rfl rfl ?_)
    refine Q9 goEvidence (Evidence_ok bs p2 hb) rfl rfl rfl rfl rfl (fun e he => ?_)
    unfold EvIn at he
    have u0 : 0 ≤ e.a := he.1
    have u1 : e.a < 4294967296 := by omega
    have u2 : 0 ≤ e.b := by omega
    have u3 : e.b < 4294967296 := by omega
    generalize hq0 : e.p = q0
    (refine Qo 2 rfl rfl (by with_reducible exact zvEv) rfl rfl rfl ?_; refine Qr 4 rfl rfl rfl rfl rfl (by with_reducible first | exact szAtlas | exact szEv) rfl rfl ?_; refine Qv (hK _ _ (Qq (Qw ?_))); clear hK K)
    refine St.drawR (by with_reducible exact mixed) 17 (.p 0 (.p 3 (.p 5 (.p 7 (.p 9 (.p 11 (.p 13 (.f 4 (.f 6 (.fork 1 (.p 2 (.fork 8 (.fork 10 (.fork 12 (.fork 14 (.p 15 (.m 16 (.a 17 .done))) 16 (.m 14 (.p 15 (.a 17 .done)))) 16 (.m 12 (.m 14 (.p 15 (.a 17 .done))))) 16 (.m 10 (.m 12 (.m 14 (.p 15 (.a 17 .done)))))) 16 (.m 8 (.m 10 (.m 12 (.m 14 (.p 15 (.a 17 .done)))))))) 16 (.m 1 (.p 2 (.m 8 (.m 10 (.m 12 (.m 14 (.p 15 (.a 17 .done)))))))))))))))))) (by kernel_rfl) (fun K hK => ?_)
    refine (fun (cont : ∀ x : Cl × Nat, U x.1 → Go.Own.Fin _ [(0, .own 0), (5, .own 1), (6, .ct (intC k)), (8, .own 3)] [(3, .box 62 (clCs x.1)), (2, .box 88 (evCs e)), (1, .row 62 7 (cls out)), (0, .box 82 (codes bs x.2))] K) => ?_) (fun x hx => hK _ _ ?_)
    rotate_left
    · clear hK K
      obtain ⟨⟨ck, ca, cb, clo, chi, ct, cs⟩, p3⟩ := x
      obtain ⟨v0, v1, v2, v3⟩ := hx
      dsimp only at v0 v1 v2 v3 ⊢
      (refine Qq (Qw (Qw (Qx fun K hK => ?_))); refine Qz rfl rfl rfl ?_)
      refine Q9 goNext (Next_ok bs p3 12 (by decide) (by decide) hb) rfl rfl rfl rfl rfl (fun q hq3 => ?_)
      obtain ⟨sw, p4⟩ := q
      dsimp only at hq3 ⊢
      (refine Qv (hK _ _ (Qq (Q4 (Qw ?_)))); clear hK K; refine Qx (fun K hK => ?_); refine Qk ieql rfl rfl rfl rfl ?_; refine Qy rfl rfl rfl ?_; refine Qv (hK _ _ (Qq ?_)); clear hK K)
      refine Q7 rfl (fun s1 => ?_) (fun s1 => ?_)
      · (refine Qx (fun K hK => ?_); refine Qu rfl rfl rfl (by with_reducible first | exact fK0 | exact fK1 | exact fK2 | exact fK3 | exact fK4 | exact fK5 | exact fK6 | exact fE0 | exact fE1 | exact fE2 | exact fE3 | exact fA0 | exact fD0 | exact fD1) rfl ?_; refine XX rfl rfl rfl rfl rfl (by with_reducible first | exact zInt | exact Zy | exact zClaims) (Nat.le_of_ble_eq_true rfl) ?_; refine Qv (hK _ _ (Qq ?_)); clear hK K; refine Qx (fun K hK => ?_); refine Qz rfl rfl rfl ?_; refine Qm (n := 7) rfl rfl rfl rfl rfl (by with_reducible exact Xz) rfl ?_)
        refine Xm (n := 7) rfl rfl (by with_reducible exact sClaims) rfl rfl (by decide) rfl ?_
        refine Xk out.length (cls (out ++ [⟨ck, 0, cb, clo, chi, ct, cs⟩])) rfl rfl rfl rfl (by with_reducible exact sClaims) (XK out) rfl (by omega) (by omega) (cls_snoc out ⟨ck, 0, cb, clo, chi, ct, cs⟩) rfl ?_
        (refine Qy rfl rfl rfl ?_; refine Qv (hK _ _ (Qq ?_)); clear hK K; refine Qx (fun K hK => ?_); refine Qz rfl rfl rfl ?_; refine Qk (isub (by omega) (by omega)) rfl rfl rfl rfl ?_; refine Qy rfl rfl rfl ?_; refine Qv (hK _ _ (Qa ?_)); clear hK K)
        refine X7 3 ?_
        refine X7 2 ?_
        refine Qg (k - 1, out ++ [⟨ck, 0, cb, clo, chi, ct, cs⟩], p4) (by dsimp only; omega) ⟨by dsimp only; omega, by simp; omega, mem_snocC hout ⟨by dsimp only; omega, by dsimp only; omega, by dsimp only; omega, by dsimp only; omega⟩⟩ (by exact QK rfl ⟨rfl, rfl, rfl, trivial⟩)
      · (refine Qw (Qx fun K hK => ?_); refine Qk ieql rfl rfl rfl rfl ?_; refine Qy rfl rfl rfl ?_; refine Qv (hK _ _ (Qq ?_)); clear hK K)
        refine Q7 rfl (fun s2 => ?_) (fun s2 => ?_)
        · (refine Qx (fun K hK => ?_); refine Qu rfl rfl rfl (by with_reducible first | exact fK0 | exact fK1 | exact fK2 | exact fK3 | exact fK4 | exact fK5 | exact fK6 | exact fE0 | exact fE1 | exact fE2 | exact fE3 | exact fA0 | exact fD0 | exact fD1) rfl ?_; refine QQ rfl rfl rfl rfl rfl (by with_reducible first | exact lInt | exact QU | exact QW | exact QY | exact lIDs) rfl ?_; refine Qu rfl rfl rfl (by with_reducible first | exact fK0 | exact fK1 | exact fK2 | exact fK3 | exact fK4 | exact fK5 | exact fK6 | exact fE0 | exact fE1 | exact fE2 | exact fE3 | exact fA0 | exact fD0 | exact fD1) rfl ?_; refine QQ rfl rfl rfl rfl rfl (by with_reducible first | exact lInt | exact QU | exact QW | exact QY | exact lIDs) rfl ?_; refine Qu rfl rfl rfl (by with_reducible first | exact fK0 | exact fK1 | exact fK2 | exact fK3 | exact fK4 | exact fK5 | exact fK6 | exact fE0 | exact fE1 | exact fE2 | exact fE3 | exact fA0 | exact fD0 | exact fD1) rfl ?_; refine XX rfl rfl rfl rfl rfl (by with_reducible first | exact zInt | exact Zy | exact zClaims) (Nat.le_of_ble_eq_true rfl) ?_; refine Qu rfl rfl rfl (by with_reducible first | exact fK0 | exact fK1 | exact fK2 | exact fK3 | exact fK4 | exact fK5 | exact fK6 | exact fE0 | exact fE1 | exact fE2 | exact fE3 | exact fA0 | exact fD0 | exact fD1) rfl ?_; refine XX rfl rfl rfl rfl rfl (by with_reducible first | exact zInt | exact Zy | exact zClaims) (Nat.le_of_ble_eq_true rfl) ?_; refine Qv (hK _ _ (Qq ?_)); clear hK K; refine Qx (fun K hK => ?_); refine Qz rfl rfl rfl ?_; refine Qm (n := 7) rfl rfl rfl rfl rfl (by with_reducible exact Xz) rfl ?_)
          refine Xm (n := 7) rfl rfl (by with_reducible exact sClaims) rfl rfl (by decide) rfl ?_
          refine Xk out.length (cls (out ++ [⟨ck, cb, ca, clo, chi, ct, cs⟩])) rfl rfl rfl rfl (by with_reducible exact sClaims) (XK out) rfl (by omega) (by omega) (cls_snoc out ⟨ck, cb, ca, clo, chi, ct, cs⟩) rfl ?_
          (refine Qy rfl rfl rfl ?_; refine Qv (hK _ _ (Qq ?_)); clear hK K; refine Qx (fun K hK => ?_); refine Qz rfl rfl rfl ?_; refine Qk (isub (by omega) (by omega)) rfl rfl rfl rfl ?_; refine Qy rfl rfl rfl ?_; refine Qv (hK _ _ (Qa ?_)); clear hK K)
          refine X7 3 ?_
          refine X7 2 ?_
          refine Qg (k - 1, out ++ [⟨ck, cb, ca, clo, chi, ct, cs⟩], p4) (by dsimp only; omega) ⟨by dsimp only; omega, by simp; omega, mem_snocC hout ⟨by dsimp only; omega, by dsimp only; omega, by dsimp only; omega, by dsimp only; omega⟩⟩ (by exact QK rfl ⟨rfl, rfl, rfl, trivial⟩)
        · (refine Qw (Qx fun K hK => ?_); refine Qk ieql rfl rfl rfl rfl ?_; refine Qy rfl rfl rfl ?_; refine Qv (hK _ _ (Qq ?_)); clear hK K)
          refine Q7 rfl (fun s3 => ?_) (fun s3 => ?_)
          · (refine Qx (fun K hK => ?_); refine Qz rfl rfl rfl ?_)
            refine Za (m := 3) (cs := ints [-1, 2251799813685248, 2251799813685249]) rfl rfl (by with_reducible exact sInts) (.one rfl rfl rfl rfl (.one rfl rfl rfl rfl (.one rfl rfl rfl rfl .nil))) (by decide) rfl ?_
            refine Q9 goPick (Pick_ok bs p4 [-1, 2251799813685248, 2251799813685249] (by decide) (by decide) hb) rfl rfl rfl rfl rfl (fun q _ => ?_)
            obtain ⟨lo', p5⟩ := q
            dsimp only
            (refine Qu rfl rfl rfl (by with_reducible first | exact fK0 | exact fK1 | exact fK2 | exact fK3 | exact fK4 | exact fK5 | exact fK6 | exact fE0 | exact fE1 | exact fE2 | exact fE3 | exact fA0 | exact fD0 | exact fD1) rfl ?_; refine XX rfl rfl rfl rfl rfl (by with_reducible first | exact zInt | exact Zy | exact zClaims) (Nat.le_of_ble_eq_true rfl) ?_; refine Qv (hK _ _ (Qq ?_)); clear hK K; refine Qx (fun K hK => ?_); refine Qz rfl rfl rfl ?_; refine Qm (n := 7) rfl rfl rfl rfl rfl (by with_reducible exact Xz) rfl ?_)
            refine Xm (n := 7) rfl rfl (by with_reducible exact sClaims) rfl rfl (by decide) rfl ?_
            refine Xk out.length (cls (out ++ [⟨ck, ca, cb, lo', chi, ct, cs⟩])) rfl rfl rfl rfl (by with_reducible exact sClaims) (XK out) rfl (by omega) (by omega) (cls_snoc out ⟨ck, ca, cb, lo', chi, ct, cs⟩) rfl ?_
            (refine Qy rfl rfl rfl ?_; refine Qv (hK _ _ (Qq ?_)); clear hK K; refine Qx (fun K hK => ?_); refine Qz rfl rfl rfl ?_; refine Qk (isub (by omega) (by omega)) rfl rfl rfl rfl ?_; refine Qy rfl rfl rfl ?_; refine Qv (hK _ _ (Qa ?_)); clear hK K)
            refine X7 3 ?_
            refine X7 2 ?_
            refine Qg (k - 1, out ++ [⟨ck, ca, cb, lo', chi, ct, cs⟩], p5) (by dsimp only; omega) ⟨by dsimp only; omega, by simp; omega, mem_snocC hout ⟨by dsimp only; omega, by dsimp only; omega, by dsimp only; omega, by dsimp only; omega⟩⟩ (by exact QK rfl ⟨rfl, rfl, rfl, trivial⟩)
          · (refine Q5 (Qq (Qx fun K hK => ?_)); refine Qz rfl rfl rfl ?_; refine Qm (n := 7) rfl rfl rfl rfl rfl (by with_reducible exact Xz) rfl ?_)
            refine Xm (n := 7) rfl rfl (by with_reducible exact sClaims) rfl rfl (by decide) rfl ?_
            refine Xk out.length (cls (out ++ [⟨ck, ca, cb, clo, chi, ct, cs⟩])) rfl rfl rfl rfl (by with_reducible exact sClaims) (XK out) rfl (by omega) (by omega) (cls_snoc out ⟨ck, ca, cb, clo, chi, ct, cs⟩) rfl ?_
            (refine Qy rfl rfl rfl ?_; refine Qv (hK _ _ (Qq ?_)); clear hK K; refine Qx (fun K hK => ?_); refine Qz rfl rfl rfl ?_; refine Qk (isub (by omega) (by omega)) rfl rfl rfl rfl ?_; refine Qy rfl rfl rfl ?_; refine Qv (hK _ _ (Qa ?_)); clear hK K)
            refine X7 3 ?_
            refine X7 2 ?_
            refine Qg (k - 1, out ++ [⟨ck, ca, cb, clo, chi, ct, cs⟩], p4) (by dsimp only; omega) ⟨by dsimp only; omega, by simp; omega, mem_snocC hout ⟨by dsimp only; omega, by dsimp only; omega, by dsimp only; omega, by dsimp only; omega⟩⟩ (by exact QK rfl ⟨rfl, rfl, rfl, trivial⟩)
    refine Xv ?_
    (refine Qz rfl rfl rfl ?_)
    refine Qv ?_
    refine Xv ?_
    (refine Qu rfl rfl rfl (by with_reducible first | exact fK0 | exact fK1 | exact fK2 | exact fK3 | exact fK4 | exact fK5 | exact fK6 | exact fE0 | exact fE1 | exact fE2 | exact fE3 | exact fA0 | exact fD0 | exact fD1) rfl ?_)
    refine Qv ?_
    refine Xv ?_
    (refine Qu rfl rfl rfl (by with_reducible first | exact fK0 | exact fK1 | exact fK2 | exact fK3 | exact fK4 | exact fK5 | exact fK6 | exact fE0 | exact fE1 | exact fE2 | exact fE3 | exact fA0 | exact fD0 | exact fD1) rfl ?_)
    refine Qv ?_
    refine Xv ?_
    (refine Qz rfl rfl rfl ?_)
    refine Qv ?_
    refine Xv ?_
    (refine Qz rfl rfl rfl ?_)
    refine Qv ?_
    refine Xv ?_
    (refine Qz rfl rfl rfl ?_)
    refine Qv ?_
    refine Xv ?_
    (refine Qz rfl rfl rfl ?_)
    refine Qv ?_
    refine Zr rfl rfl rfl rfl rfl (by with_reducible exact QU) (Xr rfl) rfl ?_
    refine Zr rfl rfl rfl rfl rfl (by with_reducible exact QU) (Xr rfl) rfl ?_
    refine Fin.rfork ?_ ?_
    · refine Xh rfl goNext (Next_ok bs q0 6 (by decide) (by decide) hb) rfl rfl rfl rfl rfl (fun y hy0 => ?_)
      obtain ⟨x1, q1⟩ := y
      dsimp only at hy0 ⊢
      refine Xv ?_
      (refine Qk (iadd (by omega) (by omega)) rfl rfl rfl rfl ?_)
      refine Qv ?_
      refine Fin.rfork ?_ ?_
      · refine Xh rfl goNext (Next_ok bs q1 4 (by decide) (by decide) hb) rfl rfl rfl rfl rfl (fun y hy1 => ?_)
        obtain ⟨x2, q2⟩ := y
        dsimp only at hy1 ⊢
        refine Fin.rfork ?_ ?_
        · refine Xh rfl goNext (Next_ok bs q2 4 (by decide) (by decide) hb) rfl rfl rfl rfl rfl (fun y hy2 => ?_)
          obtain ⟨x3, q3⟩ := y
          dsimp only at hy2 ⊢
          refine Fin.rfork ?_ ?_
          · refine Xh rfl goNext (Next_ok bs q3 3 (by decide) (by decide) hb) rfl rfl rfl rfl rfl (fun y hy3 => ?_)
            obtain ⟨x4, q4⟩ := y
            dsimp only at hy3 ⊢
            refine Fin.rfork ?_ ?_
            · refine Xh rfl goNext (Next_ok bs q4 4 (by decide) (by decide) hb) rfl rfl rfl rfl rfl (fun y hy4 => ?_)
              obtain ⟨x5, q5⟩ := y
              dsimp only at hy4 ⊢
              refine Xv ?_
              refine Xq rfl (by with_reducible exact bClaim) rfl (.one rfl rfl rfl rfl (.one rfl rfl rfl rfl (.one rfl rfl rfl rfl (.one rfl rfl rfl rfl (.one rfl rfl rfl rfl (.one rfl rfl rfl rfl (.one rfl rfl rfl rfl .nil))))))) rfl ?_
              refine Qv ?_
              refine Fin.rm ?_
              refine Qo 3 rfl rfl (by with_reducible exact zvClaim) rfl rfl rfl ?_
              refine Qv ?_
              refine Fin.ra ?_
              refine Qr 7 rfl rfl rfl rfl rfl (by with_reducible exact Zg) rfl rfl ?_
              refine Qv ?_
              refine Z0 ?_
              exact Xj cont ⟨⟨1 + x1, e.a, e.b, x2, x3, x4, x5⟩, q5⟩ ⟨u0, u1, u2, u3⟩ (by exact QK rfl ⟨rfl, rfl, rfl, rfl, trivial⟩)
            · refine Fin.rm ?_
              refine Qo 3 rfl rfl (by with_reducible exact zvClaim) rfl rfl rfl ?_
              refine Qv ?_
              refine Xh rfl goNext (Next_ok bs q4 4 (by decide) (by decide) hb) rfl rfl rfl rfl rfl (fun y hy4 => ?_)
              obtain ⟨x5, q5⟩ := y
              dsimp only at hy4 ⊢
              refine Xv ?_
              refine Xq rfl (by with_reducible exact bClaim) rfl (.one rfl rfl rfl rfl (.one rfl rfl rfl rfl (.one rfl rfl rfl rfl (.one rfl rfl rfl rfl (.one rfl rfl rfl rfl (.one rfl rfl rfl rfl (.one rfl rfl rfl rfl .nil))))))) rfl ?_
              refine Qv ?_
              refine Fin.ra ?_
              refine Qr 7 rfl rfl rfl rfl rfl (by with_reducible exact Zg) rfl rfl ?_
              refine Qv ?_
              refine Z0 ?_
              exact Xj cont ⟨⟨1 + x1, e.a, e.b, x2, x3, x4, x5⟩, q5⟩ ⟨u0, u1, u2, u3⟩ (by exact QK rfl ⟨rfl, rfl, rfl, rfl, trivial⟩)
          · refine Fin.rm ?_
            refine Qo 3 rfl rfl (by with_reducible exact zvClaim) rfl rfl rfl ?_
            refine Qv ?_
            refine Xh rfl goNext (Next_ok bs q3 3 (by decide) (by decide) hb) rfl rfl rfl rfl rfl (fun y hy3 => ?_)
            obtain ⟨x4, q4⟩ := y
            dsimp only at hy3 ⊢
            refine Xh rfl goNext (Next_ok bs q4 4 (by decide) (by decide) hb) rfl rfl rfl rfl rfl (fun y hy4 => ?_)
            obtain ⟨x5, q5⟩ := y
            dsimp only at hy4 ⊢
            refine Xv ?_
            refine Xq rfl (by with_reducible exact bClaim) rfl (.one rfl rfl rfl rfl (.one rfl rfl rfl rfl (.one rfl rfl rfl rfl (.one rfl rfl rfl rfl (.one rfl rfl rfl rfl (.one rfl rfl rfl rfl (.one rfl rfl rfl rfl .nil))))))) rfl ?_
            refine Qv ?_
            refine Fin.ra ?_
            refine Qr 7 rfl rfl rfl rfl rfl (by with_reducible exact Zg) rfl rfl ?_
            refine Qv ?_
            refine Z0 ?_
            exact Xj cont ⟨⟨1 + x1, e.a, e.b, x2, x3, x4, x5⟩, q5⟩ ⟨u0, u1, u2, u3⟩ (by exact QK rfl ⟨rfl, rfl, rfl, rfl, trivial⟩)
        · refine Fin.rm ?_
          refine Qo 3 rfl rfl (by with_reducible exact zvClaim) rfl rfl rfl ?_
          refine Qv ?_
          refine Xh rfl goNext (Next_ok bs q2 4 (by decide) (by decide) hb) rfl rfl rfl rfl rfl (fun y hy2 => ?_)
          obtain ⟨x3, q3⟩ := y
          dsimp only at hy2 ⊢
          refine Xh rfl goNext (Next_ok bs q3 3 (by decide) (by decide) hb) rfl rfl rfl rfl rfl (fun y hy3 => ?_)
          obtain ⟨x4, q4⟩ := y
          dsimp only at hy3 ⊢
          refine Xh rfl goNext (Next_ok bs q4 4 (by decide) (by decide) hb) rfl rfl rfl rfl rfl (fun y hy4 => ?_)
          obtain ⟨x5, q5⟩ := y
          dsimp only at hy4 ⊢
          refine Xv ?_
          refine Xq rfl (by with_reducible exact bClaim) rfl (.one rfl rfl rfl rfl (.one rfl rfl rfl rfl (.one rfl rfl rfl rfl (.one rfl rfl rfl rfl (.one rfl rfl rfl rfl (.one rfl rfl rfl rfl (.one rfl rfl rfl rfl .nil))))))) rfl ?_
          refine Qv ?_
          refine Fin.ra ?_
          refine Qr 7 rfl rfl rfl rfl rfl (by with_reducible exact Zg) rfl rfl ?_
          refine Qv ?_
          refine Z0 ?_
          exact Xj cont ⟨⟨1 + x1, e.a, e.b, x2, x3, x4, x5⟩, q5⟩ ⟨u0, u1, u2, u3⟩ (by exact QK rfl ⟨rfl, rfl, rfl, rfl, trivial⟩)
      · refine Fin.rm ?_
        refine Qo 3 rfl rfl (by with_reducible exact zvClaim) rfl rfl rfl ?_
        refine Qv ?_
        refine Xh rfl goNext (Next_ok bs q1 4 (by decide) (by decide) hb) rfl rfl rfl rfl rfl (fun y hy1 => ?_)
        obtain ⟨x2, q2⟩ := y
        dsimp only at hy1 ⊢
        refine Xh rfl goNext (Next_ok bs q2 4 (by decide) (by decide) hb) rfl rfl rfl rfl rfl (fun y hy2 => ?_)
        obtain ⟨x3, q3⟩ := y
        dsimp only at hy2 ⊢
        refine Xh rfl goNext (Next_ok bs q3 3 (by decide) (by decide) hb) rfl rfl rfl rfl rfl (fun y hy3 => ?_)
        obtain ⟨x4, q4⟩ := y
        dsimp only at hy3 ⊢
        refine Xh rfl goNext (Next_ok bs q4 4 (by decide) (by decide) hb) rfl rfl rfl rfl rfl (fun y hy4 => ?_)
        obtain ⟨x5, q5⟩ := y
        dsimp only at hy4 ⊢
        refine Xv ?_
        refine Xq rfl (by with_reducible exact bClaim) rfl (.one rfl rfl rfl rfl (.one rfl rfl rfl rfl (.one rfl rfl rfl rfl (.one rfl rfl rfl rfl (.one rfl rfl rfl rfl (.one rfl rfl rfl rfl (.one rfl rfl rfl rfl .nil))))))) rfl ?_
        refine Qv ?_
        refine Fin.ra ?_
        refine Qr 7 rfl rfl rfl rfl rfl (by with_reducible exact Zg) rfl rfl ?_
        refine Qv ?_
        refine Z0 ?_
        exact Xj cont ⟨⟨1 + x1, e.a, e.b, x2, x3, x4, x5⟩, q5⟩ ⟨u0, u1, u2, u3⟩ (by exact QK rfl ⟨rfl, rfl, rfl, rfl, trivial⟩)
    · refine Fin.rm ?_
      refine Qo 3 rfl rfl (by with_reducible exact zvClaim) rfl rfl rfl ?_
      refine Qv ?_
      refine Xh rfl goNext (Next_ok bs q0 6 (by decide) (by decide) hb) rfl rfl rfl rfl rfl (fun y hy0 => ?_)
      obtain ⟨x1, q1⟩ := y
      dsimp only at hy0 ⊢
      refine Xv ?_
      (refine Qk (iadd (by omega) (by omega)) rfl rfl rfl rfl ?_)
      refine Qv ?_
      refine Xh rfl goNext (Next_ok bs q1 4 (by decide) (by decide) hb) rfl rfl rfl rfl rfl (fun y hy1 => ?_)
      obtain ⟨x2, q2⟩ := y
      dsimp only at hy1 ⊢
      refine Xh rfl goNext (Next_ok bs q2 4 (by decide) (by decide) hb) rfl rfl rfl rfl rfl (fun y hy2 => ?_)
      obtain ⟨x3, q3⟩ := y
      dsimp only at hy2 ⊢
      refine Xh rfl goNext (Next_ok bs q3 3 (by decide) (by decide) hb) rfl rfl rfl rfl rfl (fun y hy3 => ?_)
      obtain ⟨x4, q4⟩ := y
      dsimp only at hy3 ⊢
      refine Xh rfl goNext (Next_ok bs q4 4 (by decide) (by decide) hb) rfl rfl rfl rfl rfl (fun y hy4 => ?_)
      obtain ⟨x5, q5⟩ := y
      dsimp only at hy4 ⊢
      refine Xv ?_
      refine Xq rfl (by with_reducible exact bClaim) rfl (.one rfl rfl rfl rfl (.one rfl rfl rfl rfl (.one rfl rfl rfl rfl (.one rfl rfl rfl rfl (.one rfl rfl rfl rfl (.one rfl rfl rfl rfl (.one rfl rfl rfl rfl .nil))))))) rfl ?_
      refine Qv ?_
      refine Fin.ra ?_
      refine Qr 7 rfl rfl rfl rfl rfl (by with_reducible exact Zg) rfl rfl ?_
      refine Qv ?_
      refine Z0 ?_
      exact Xj cont ⟨⟨1 + x1, e.a, e.b, x2, x3, x4, x5⟩, q5⟩ ⟨u0, u1, u2, u3⟩ (by exact QK rfl ⟨rfl, rfl, rfl, rfl, trivial⟩)
  · refine St.frz 1 _ rfl (X0 _ _) (Z4 rfl) ?_
    (refine Qh (Qq (Qw (Qx fun K hK => ?_))); refine Qz rfl rfl rfl ?_; refine Qy rfl rfl rfl ?_; refine Qv (hK _ _ (Qq (Q0 ?_))); clear hK K)
    refine Xe (out, p2) [_] rfl (QJ rfl QX) rfl rfl ⟨by show (out.length : Int) ≤ most; omega, hout⟩
section
variable {X : Ctx} {L : AL} {B : BL} {ops : Array Oper} {K : Act → World → Prop} {r : Pl} {k : Kd}
  {x y z : Operand} {d : Nat} {t t2 t' : TypeId} {pos : String} {af : Array Edge} {g : Option (Nat × Bool)}
def evAllI (L : AL) : Nat → List (Nat × Operand) → List Int → Prop
  | _, [], [] => True
  | s, (i, x) :: q, y :: ys => i = s ∧ ev L x = some (.ct (intC y)) ∧ evAllI L (s + 1) q ys
  | _, _, _ => False
theorem parts_ints : ∀ (ps : List (Nat × Operand)) (ys : List Int) (s : Nat) (pre zs : List CT), pre.length = s → zs.length = ys.length → evAllI L s ps ys → BParts L (fun i => some (i * 1, 1)) ps (pre ++ zs) (pre ++ ints ys)
  | [], [], _, pre, zs, _, h2, _ => by
    have : zs = [] := List.eq_nil_of_length_eq_zero h2
    subst this
    exact .nil
  | [], _ :: _, _, _, _, _, _, h => h.elim
  | _ :: _, [], _, _, _, _, _, h => h.elim
  | (i, x) :: q, y :: ys, s, pre, z :: zs, h1, h2, h => by
    obtain ⟨rfl, h3, h4⟩ := h
    refine .one (off := i * 1) (c := intC y) rfl h3 rfl (by rw [Nat.blt_eq, List.length_append, List.length_cons]; omega) ?_
    have e : (pre ++ z :: zs).set (i * 1) (intC y) = (pre ++ [intC y]) ++ zs := by
      rw [Nat.mul_one, List.set_append_right _ _ (by omega), h1, Nat.sub_self, List.set_cons_zero, List.append_assoc]; rfl
    have e2 : pre ++ ints (y :: ys) = (pre ++ [intC y]) ++ ints ys := by simp [ints]
    rw [e, e2]
    exact parts_ints q ys (i + 1) (pre ++ [intC y]) zs (by rw [List.length_append, h1]; rfl) (by simpa using h2) h4
  | _ :: _, _ :: _, _, _, [], _, h2, _ => by simp at h2
theorem chunk_ints : ∀ xs : List Int, chunk 1 xs.length (ints xs) = xs.map fun x => [intC x]
  | [] => rfl
  | x :: xs => by
    show ((ints (x :: xs)).take 1) :: chunk 1 xs.length ((ints (x :: xs)).drop 1) = _
    rw [show (ints (x :: xs)).drop 1 = ints xs by simp [ints], chunk_ints xs]
    rfl
theorem Ops.litI {ps : List (Nat × Operand)} {m : Nat} (xs : List Int) (hk : k.mk = true) (hg : gd ops L g = some true) (hT : SlcT X.P t 3 1 8 (.int .i64 0)) (hm : xs.length = m) (hp : evAllI L 0 ps xs) (hml : m ≤ 16777216) (hn : Nat.blt d X.n = true)
    (h : Ops X ops r ((d, .ct (intsC xs)) :: L) B K) : Ops X ops (.cons ⟨some d, .buildSlice t m ps.toArray, t', pos, af, g⟩ k r) L B K := by
  subst hm
  refine Za (cs := ints xs) hk hg hT ?_ (by omega) hn ?_
  · exact parts_ints ps xs 0 [] _ rfl ((zinit_len hT xs.length).trans (Nat.mul_one _)) hp
  · rw [chunk_ints]; exact h
end
set_option maxHeartbeats 2000000 in
theorem Xu (bs : List Int) (p : Nat) (n : Int) (h1 : 1 ≤ n) (h2 : n ≤ 1000000) (hb : Bytes bs) :
    OkB Tryz.prog 9 82 (codes bs p) [intC n] (fun q : Int × Nat => 0 ≤ q.1 ∧ q.1 < n) (fun q => intC q.1) (fun q => codes bs q.2) := by
  rcases Int.lt_or_le 256 n with h3 | h3
  rotate_left
  · exact Next_ok bs p n h1 h3 hb
  have hlen := hb.len
  refine OkB.enter Tryz.func9 rfl _ Tryz.ntmps9 rfl ?_
  intro S w g
  (refine Qw (Qx fun K hK => ?_); refine Qy rfl rfl rfl ?_; refine Qv (hK _ _ (Qq (Qw (Qw ?_)))); clear hK K)
  refine Qp (by with_reducible exact mixed) 14 (.p 0 (.p 1 (.p 2 (.p 4 (.p 5 (.p 6 (.f 3 (.f 7 (.p 8 (.p 9 (.p 10 (.p 11 (.p 12 (.p 13 .done)))))))))))))) (by kernel_rfl) (fun K hK => ?_)
  (refine Qz rfl rfl rfl ?_; refine Xc rfl rfl rfl rfl ?_; refine Qu rfl rfl rfl (by with_reducible first | exact fC0 | exact fC1 | exact fR0 | exact fR1) rfl ?_; refine Qz rfl rfl rfl ?_; refine Xc rfl rfl rfl rfl ?_; refine Qu rfl rfl rfl (by with_reducible first | exact fC0 | exact fC1 | exact fR0 | exact fR1) rfl ?_; refine QQ rfl rfl rfl rfl rfl (by with_reducible first | exact lBytes | exact lInt | exact lInts) rfl ?_; refine QQ rfl rfl rfl rfl rfl (by with_reducible first | exact lBytes | exact lInt | exact lInts) rfl ?_; refine Qd rfl rfl (by with_reducible exact sBytes.und) (List.length_map ..) rfl ?_; refine Qk igeq rfl rfl rfl rfl ?_; refine Qz rfl rfl rfl ?_)
  refine Q8 16 rfl (fun h => ?_) (fun h => ?_)
  · (refine Qj rfl rfl rfl ?_; refine Qj rfl rfl rfl ?_; refine QZ rfl rfl rfl rfl ?_; refine Qv (hK _ _ (Qq (Qc rfl (Qw ?_)))); clear hK K; refine Qx (fun K hK => ?_); refine Qy rfl rfl rfl ?_; refine Qv (hK _ _ (Qq (Q0 (QV ?_)))); clear hK K)
    refine Xe (0, p) [_] rfl (QJ rfl QX) rfl rfl ⟨by show (0 : Int) ≤ 0; omega, by show (0 : Int) < n; omega⟩
  · (refine Qz rfl rfl rfl ?_; refine Qk ilss rfl rfl rfl rfl ?_; refine Q2 rfl rfl rfl rfl ?_; refine Qv (hK _ _ (Qq ?_)); clear hK K)
    refine Q7 rfl (fun h' => ?_) (fun h' => ?_)
    · exact absurd h' (by omega)
    · (refine Q5 (Qq (Qw ?_)))
      refine Qp (by with_reducible exact mixed) 12 (.p 0 (.p 1 (.p 2 (.p 4 (.p 5 (.p 6 (.f 3 (.f 7 (.p 8 (.f 9 (.p 10 (.p 11 .done)))))))))))) (by kernel_rfl) (fun K hK => ?_)
      (refine Qz rfl rfl rfl ?_; refine Xc rfl rfl rfl rfl ?_; refine Qu rfl rfl rfl (by with_reducible first | exact fC0 | exact fC1 | exact fR0 | exact fR1) rfl ?_; refine Qz rfl rfl rfl ?_; refine Xc rfl rfl rfl rfl ?_; refine Qu rfl rfl rfl (by with_reducible first | exact fC0 | exact fC1 | exact fR0 | exact fR1) rfl ?_; refine QQ rfl rfl rfl rfl rfl (by with_reducible first | exact lBytes | exact lInt | exact lInts) rfl ?_; refine QQ rfl rfl rfl rfl rfl (by with_reducible first | exact lBytes | exact lInt | exact lInts) rfl ?_; refine Ql rfl rfl rfl (by with_reducible exact sBytes) (by omega) (bytes_at (by omega) (by omega)) rfl ?_; refine Zv rfl rfl rfl (by with_reducible exact lU8) rfl ?_)
      have hx := hb.at p
      generalize he : bs.getD p 0 = x at hx
      refine Zj (q := x) rfl rfl (by with_reducible exact uU8) (by with_reducible exact uInt) (by rw [Int.toNat_natCast, he]; exact Zi (by omega) (by omega)) rfl ?_
      (refine Qy rfl rfl rfl ?_; refine Qv (hK _ _ (Qq (Qw ?_))); clear hK K; refine Qx (fun K hK => ?_); refine Qz rfl rfl rfl ?_; refine Xc rfl rfl rfl rfl ?_; refine Qu rfl rfl rfl (by with_reducible first | exact fC0 | exact fC1 | exact fR0 | exact fR1) rfl ?_; refine QQ rfl rfl rfl rfl rfl (by with_reducible first | exact lBytes | exact lInt | exact lInts) rfl ?_; refine Qk (iadd (by omega) (by omega)) rfl rfl rfl rfl ?_; refine Xc rfl rfl rfl rfl ?_; refine Qu rfl rfl rfl (by with_reducible first | exact fC0 | exact fC1 | exact fR0 | exact fR1) rfl ?_; refine XX rfl rfl rfl rfl rfl (by with_reducible exact zInt) (by simp [Ent.cs]) ?_; refine Qv (hK _ _ (Qq (Qw (Qw ?_)))); clear hK K; refine Qx (fun K hK => ?_); refine Qz rfl rfl rfl ?_; refine Qk igtr rfl rfl rfl rfl ?_; refine Qv (hK _ _ (Qq ?_)); clear hK K)
      refine Q7 rfl (fun h' => ?_) (fun h' => ?_)
      · (refine Qw (Qx fun K hK => ?_); refine Qz rfl rfl rfl ?_; refine Qk (imul (by omega) (by omega)) rfl rfl rfl rfl ?_; refine Qz rfl rfl rfl ?_)
        refine Q9 goNext (Next_ok bs (p + 1) 256 (by decide) (by decide) hb) rfl rfl rfl rfl rfl (fun q hq => ?_)
        obtain ⟨y, p1⟩ := q
        dsimp only at hq ⊢
        (refine Qk (iadd (by omega) (by omega)) rfl rfl rfl rfl ?_; refine Qz rfl rfl rfl ?_; refine Qk (irem (by omega) (by omega)) rfl rfl rfl rfl ?_; refine Qy rfl rfl rfl ?_; refine Qv (hK _ _ (Qq (Q0 (QV ?_)))); clear hK K)
        refine Xe ((256 * x + y) % n, p1) [_] rfl (QJ rfl QX) rfl rfl ⟨Int.emod_nonneg _ (by omega), Int.emod_lt_of_pos _ (by omega)⟩
      · exact absurd h3 h'
theorem goBool : InGo Tryz.prog 29 := InGo.of Tryz.func29 rfl (by decide)
theorem YQ (bs : List Int) (p : Nat) (n : Int) (h1 : 1 ≤ n) (h2 : n ≤ 1000000) (hb : Bytes bs) :
    OkB Tryz.prog 29 82 (codes bs p) [intC n] (fun _ : Bool × Nat => True) (fun q => boolC q.1) (fun q => codes bs q.2) := by
  refine OkB.enter Tryz.func29 rfl _ Tryz.ntmps29 rfl ?_
  intro S w g
  (refine Qw (Qx fun K hK => ?_); refine Qy rfl rfl rfl ?_; refine Qv (hK _ _ (Qq (Qw ?_))); clear hK K; refine Qx (fun K hK => ?_); refine Qz rfl rfl rfl ?_; refine Qz rfl rfl rfl ?_)
  refine Q9 goNext (Xu bs p n h1 h2 hb) rfl rfl rfl rfl rfl (fun q hq => ?_)
  obtain ⟨x, p1⟩ := q
  dsimp only at hq ⊢
  (refine Qz rfl rfl rfl ?_; refine Qk (isub (by omega) (by omega)) rfl rfl rfl rfl ?_; refine Qk ieql rfl rfl rfl rfl ?_; refine Qy rfl rfl rfl ?_; refine Qv (hK _ _ (Qq (Q0 ?_))); clear hK K)
  refine Xe (decide (x = n - 1), p1) [_] rfl (QJ rfl QX) rfl rfl trivial
theorem goInt : InGo Tryz.prog 56 := InGo.of Tryz.func56 rfl (by decide)
set_option maxHeartbeats 4000000 in
theorem Int_ok (bs : List Int) (p : Nat) (hb : Bytes bs) :
    OkB Tryz.prog 56 82 (codes bs p) [] (fun _ : Int × Nat => True) (fun q => intC q.1) (fun q => codes bs q.2) := by
  refine OkB.enter Tryz.func56 rfl _ Tryz.ntmps56 rfl ?_
  intro S w g
  (refine Qw (Qx fun K hK => ?_); refine Qy rfl rfl rfl ?_; refine Qv (hK _ _ (Qq (Qw (Qw ?_)))); clear hK K; refine Qx (fun K hK => ?_); refine Qz rfl rfl rfl ?_)
  refine Q9 goNext (Next_ok bs p 10 (by decide) (by decide) hb) rfl rfl rfl rfl rfl (fun q hq => ?_)
  obtain ⟨k, p1⟩ := q
  dsimp only at hq ⊢
  (refine Qv (hK _ _ (Qq (Q4 (Qw ?_)))); clear hK K; refine Qx (fun K hK => ?_); refine Qk ieql rfl rfl rfl rfl ?_; refine Qy rfl rfl rfl ?_; refine Qv (hK _ _ (Qq ?_)); clear hK K)
  refine Q7 rfl (fun h => ?_) (fun h => ?_)
  · (refine Qw (Qx fun K hK => ?_); refine Qz rfl rfl rfl ?_)
    refine Q9 goNext (Next_ok bs p1 3 (by decide) (by decide) hb) rfl rfl rfl rfl rfl (fun q hq2 => ?_)
    obtain ⟨x, p2⟩ := q
    dsimp only at hq2 ⊢
    (refine Qk (isub (by omega) (by omega)) rfl rfl rfl rfl ?_; refine Qy rfl rfl rfl ?_; refine Qv (hK _ _ (Qq (Q0 (Q6 (QV ?_))))); clear hK K)
    refine Xe (_, p2) [_] rfl (QJ rfl QX) rfl rfl trivial
  (refine Qw (Qx fun K hK => ?_); refine Qk ieql rfl rfl rfl rfl ?_; refine Qy rfl rfl rfl ?_; refine Qv (hK _ _ (Qq ?_)); clear hK K)
  refine Q7 rfl (fun h => ?_) (fun h => ?_)
  · (refine Qw (Qx fun K hK => ?_))
    refine Ops.litI [9223372036854775807, -9223372036854775808, 1125899906842624, 1125899906842625, 65535, 65536, 255, 256, 1023, 1024, 65534, 65535, 4294967296, 4611686018427387905] rfl rfl (by with_reducible exact sInts) rfl ⟨rfl, rfl, rfl, rfl, rfl, rfl, rfl, rfl, rfl, rfl, rfl, rfl, rfl, rfl, rfl, rfl, rfl, rfl, rfl, rfl, rfl, rfl, rfl, rfl, rfl, rfl, rfl, rfl, trivial⟩ (by decide) rfl ?_
    generalize hxs : ([9223372036854775807, -9223372036854775808, 1125899906842624, 1125899906842625, 65535, 65536, 255, 256, 1023, 1024, 65534, 65535, 4294967296, 4611686018427387905] : List Int) = xs
    have hxl : xs.length = 14 := by rw [← hxs]; rfl
    clear hxs
    (refine Qz rfl rfl rfl ?_)
    refine Q9 goNext (Next_ok bs p1 14 (by decide) (by decide) hb) rfl rfl rfl rfl rfl (fun q hq2 => ?_)
    obtain ⟨x, p2⟩ := q
    dsimp only at hq2 ⊢
    (refine Ql rfl rfl rfl (by with_reducible first | exact sNat | exact sInts) (by omega) (ints_at (by omega) (by omega)) rfl ?_; refine Zv rfl rfl rfl (by with_reducible first | exact lInt | exact lNat | exact lBool | exact lInts) rfl ?_; refine Qy rfl rfl rfl ?_; refine Qv (hK _ _ (Qq (Q0 (Q6 (QV ?_))))); clear hK K)
    refine Xe (_, p2) [_] rfl (QJ rfl QX) rfl rfl trivial
  (refine Qw (Qx fun K hK => ?_); refine Qk ieql rfl rfl rfl rfl ?_; refine Qy rfl rfl rfl ?_; refine Qv (hK _ _ (Qq ?_)); clear hK K)
  refine Q7 rfl (fun h => ?_) (fun h => ?_)
  · (refine Qw (Qx fun K hK => ?_); refine Qz rfl rfl rfl ?_)
    refine Q9 goNext (Next_ok bs p1 256 (by decide) (by decide) hb) rfl rfl rfl rfl rfl (fun q hq2 => ?_)
    obtain ⟨x, p2⟩ := q
    dsimp only at hq2 ⊢
    (refine Qk (imul (by omega) (by omega)) rfl rfl rfl rfl ?_; refine Qz rfl rfl rfl ?_)
    refine Q9 goNext (Next_ok bs p2 256 (by decide) (by decide) hb) rfl rfl rfl rfl rfl (fun q hq3 => ?_)
    obtain ⟨y, p3⟩ := q
    dsimp only at hq3 ⊢
    (refine Qk (iadd (by omega) (by omega)) rfl rfl rfl rfl ?_; refine Qy rfl rfl rfl ?_; refine Qv (hK _ _ (Qq (Q0 (Q6 (QV ?_))))); clear hK K)
    refine Xe (_, p3) [_] rfl (QJ rfl QX) rfl rfl trivial
  (refine Q5 (Qq (Qw (Qx fun K hK => ?_))); refine Qz rfl rfl rfl ?_)
  refine Q9 goNext (Next_ok bs p1 40 (by decide) (by decide) hb) rfl rfl rfl rfl rfl (fun q hq2 => ?_)
  obtain ⟨x, p2⟩ := q
  dsimp only at hq2 ⊢
  (refine Qy rfl rfl rfl ?_; refine Qv (hK _ _ (Qq (Q0 ?_))); clear hK K)
  refine Xe (x, p2) [_] rfl (QJ rfl QX) rfl rfl trivial
theorem goCAddress : InGo Tryz.prog 54 := InGo.of Tryz.func54 rfl (by decide)
abbrev adrF (x : Fin 4294967296) : CT := adrC (x.val : Int)
theorem wrap_toFin {n : Int} (h1 : 0 ≤ n) (h2 : n < 4294967296) : IntKind.u32.wrap n = (((⟨n.toNat, by omega⟩ : Fin 4294967296).val : Nat) : Int) := by
  rw [wrap_u32 h1 h2]
  show n = ((n.toNat : Nat) : Int)
  omega
theorem shl16 {x : Int} (h0 : 0 ≤ x) (h1 : x < 65536) : IBin .shl .i64 x .u64 16 (.int .i64 (x * 65536)) := .of fun P t w => by
  show (Op.shift .shl .i64 x .u64 16).run P w = _
  have e : (Op.shift .shl .i64 x .u64 16) = pure (.int .i64 (IntKind.i64.wrap (x * 2 ^ 16))) := rfl
  rw [e, show ((2 : Int) ^ 16) = 65536 from rfl, Zi (by omega) (by omega)]
  rfl
set_option maxHeartbeats 4000000 in
theorem CAddress_ok (bs : List Int) (p : Nat) (hb : Bytes bs) :
    OkB Tryz.prog 54 82 (codes bs p) [] (fun _ : Fin 4294967296 × Nat => True) (fun q => adrF q.1) (fun q => codes bs q.2) := by
  refine OkB.enter Tryz.func54 rfl _ Tryz.ntmps54 rfl ?_
  intro S w g
  (refine Qw (Qx fun K hK => ?_); refine Qy rfl rfl rfl ?_; refine Qv (hK _ _ (Qq (Qw (Qw ?_)))); clear hK K; refine Qx (fun K hK => ?_); refine Qz rfl rfl rfl ?_)
  refine Q9 goNext (Next_ok bs p 12 (by decide) (by decide) hb) rfl rfl rfl rfl rfl (fun q hq => ?_)
  obtain ⟨k, p1⟩ := q
  dsimp only at hq ⊢
  (refine Qk ieql rfl rfl rfl rfl ?_; refine Qv (hK _ _ (Qq ?_)); clear hK K)
  refine Q7 rfl (fun h => ?_) (fun h => ?_)
  · (refine Qw (Qx fun K hK => ?_); refine Qz rfl rfl rfl ?_)
    refine Q9 goNext (Xu bs p1 65536 (by decide) (by decide) hb) rfl rfl rfl rfl rfl (fun q hq2 => ?_)
    obtain ⟨x, p2⟩ := q
    dsimp only at hq2 ⊢
    skip
    refine Qk (v := .int .i64 (x * 65536)) (shl16 (by omega) (by omega)) rfl rfl rfl rfl ?_
    (refine Qz rfl rfl rfl ?_)
    refine Q9 goNext (Xu bs p2 65536 (by decide) (by decide) hb) rfl rfl rfl rfl rfl (fun q hq3 => ?_)
    obtain ⟨y, p3⟩ := q
    dsimp only at hq3 ⊢
    (refine Qk (iadd (by omega) (by omega)) rfl rfl rfl rfl ?_)
    refine Zj rfl rfl (by with_reducible exact uInt) (by with_reducible exact uAddr) (wrap_toFin (n := x * 65536 + y) (by omega) (by omega)) rfl ?_
    (refine Qy rfl rfl rfl ?_; refine Qv (hK _ _ (Qq (Q0 (QV ?_)))); clear hK K)
    refine Xe (_, p3) [_] rfl (QJ rfl QX) rfl rfl trivial
  (refine Q5 (Qq (Qw (Qx fun K hK => ?_))); refine Qz rfl rfl rfl ?_)
  refine Q9 goNext (Next_ok bs p1 3 (by decide) (by decide) hb) rfl rfl rfl rfl rfl (fun q hq2 => ?_)
  obtain ⟨x, p2⟩ := q
  dsimp only at hq2 ⊢
  skip
  refine Qk (v := .int .i64 (x * 65536)) (shl16 (by omega) (by omega)) rfl rfl rfl rfl ?_
  (refine Qk (iadd (by omega) (by omega)) rfl rfl rfl rfl ?_; refine Qz rfl rfl rfl ?_)
  refine Q9 goNext (Next_ok bs p2 8 (by decide) (by decide) hb) rfl rfl rfl rfl rfl (fun q hq3 => ?_)
  obtain ⟨y, p3⟩ := q
  dsimp only at hq3 ⊢
  (refine Qk (iadd (by omega) (by omega)) rfl rfl rfl rfl ?_)
  refine Zj rfl rfl (by with_reducible exact uInt) (by with_reducible exact uAddr) (wrap_toFin (n := 167772160 + x * 65536 + y) (by omega) (by omega)) rfl ?_
  (refine Qy rfl rfl rfl ?_; refine Qv (hK _ _ (Qq (Q0 ?_))); clear hK K)
  refine Xe (_, p3) [_] rfl (QJ rfl QX) rfl rfl trivial
theorem goCProto : InGo Tryz.prog 55 := InGo.of Tryz.func55 rfl (by decide)
set_option maxHeartbeats 4000000 in
theorem CProto_ok (bs : List Int) (p : Nat) (hb : Bytes bs) :
    OkB Tryz.prog 55 82 (codes bs p) [] (fun _ : Int × Nat => True) (fun q => intC q.1) (fun q => codes bs q.2) := by
  refine OkB.enter Tryz.func55 rfl _ Tryz.ntmps55 rfl ?_
  intro S w g
  (refine Qw (Qx fun K hK => ?_); refine Qy rfl rfl rfl ?_; refine Qv (hK _ _ (Qq (Qw ?_))); clear hK K; refine Qx (fun K hK => ?_))
  refine Ops.litI [17, 1, 6] rfl rfl (by with_reducible exact sInts) rfl ⟨rfl, rfl, rfl, rfl, rfl, rfl, trivial⟩ (by decide) rfl ?_
  generalize hxs : ([17, 1, 6] : List Int) = xs
  have hxl : xs.length = 3 := by rw [← hxs]; rfl
  clear hxs
  (refine Qz rfl rfl rfl ?_)
  refine Q9 goNext (Next_ok bs p 3 (by decide) (by decide) hb) rfl rfl rfl rfl rfl (fun q hq => ?_)
  obtain ⟨k, p1⟩ := q
  dsimp only at hq ⊢
  (refine Ql rfl rfl rfl (by with_reducible first | exact sNat | exact sInts) (by omega) (ints_at (by omega) (by omega)) rfl ?_; refine Zv rfl rfl rfl (by with_reducible first | exact lInt | exact lNat | exact lBool | exact lInts) rfl ?_; refine Qy rfl rfl rfl ?_; refine Qv (hK _ _ (Qq (Q0 ?_))); clear hK K)
  refine Xe (_, p1) [_] rfl (QJ rfl QX) rfl rfl trivial
theorem goDProto : InGo Tryz.prog 75 := InGo.of Tryz.func75 rfl (by decide)
set_option maxHeartbeats 4000000 in
theorem DProto_ok (bs : List Int) (p : Nat) (hb : Bytes bs) :
    OkB Tryz.prog 75 82 (codes bs p) [] (fun _ : Int × Nat => True) (fun q => intC q.1) (fun q => codes bs q.2) := by
  refine OkB.enter Tryz.func75 rfl _ Tryz.ntmps75 rfl ?_
  intro S w g
  (refine Qw (Qx fun K hK => ?_); refine Qy rfl rfl rfl ?_; refine Qv (hK _ _ (Qq (Qw ?_))); clear hK K; refine Qx (fun K hK => ?_); refine Qz rfl rfl rfl ?_)
  refine Ops.litI [17, 1, 6] rfl rfl (by with_reducible exact sInts) rfl ⟨rfl, rfl, rfl, rfl, rfl, rfl, trivial⟩ (by decide) rfl ?_
  refine Q9 goPick (Pick_ok bs p [17, 1, 6] (by decide) (by decide) hb) rfl rfl rfl rfl rfl (fun q hq => ?_)
  obtain ⟨k, p1⟩ := q
  dsimp only at hq ⊢
  (refine Qy rfl rfl rfl ?_; refine Qv (hK _ _ (Qq (Q0 ?_))); clear hK K)
  refine Xe (k, p1) [_] rfl (QJ rfl QX) rfl rfl trivial
theorem lTrace : LdN Tryz.prog 66 3 := LdN.of _ Tryz.underlying66 rfl (by kernel_rfl)
theorem szTrace : (Tryz.prog.info? 66).map (·.size) = some 3 := by kernel_rfl
theorem zvTrace : (Tryz.prog.info? 66).map (·.zero) = some (some (.agg #[.int .i64 0, .int .u32 0, .int .i64 0])) := by kernel_rfl
theorem bTrace : bInfo Tryz.prog 66 = some (.agg #[.int .i64 0, .int .u32 0, .int .i64 0], [(0, some 1), (1, some 1), (2, some 1)]) := by kernel_rfl
theorem fR0t : fldInfo Tryz.prog 66 0 = some (0, some 1) := by kernel_rfl
theorem fR1t : fldInfo Tryz.prog 66 1 = some (1, some 1) := by kernel_rfl
theorem fR2t : fldInfo Tryz.prog 66 2 = some (2, some 1) := by kernel_rfl
structure Tr where
  va : Int
  ds : Fin 4294967296
  pr : Int
  p : Nat
abbrev trCs (e : Tr) : List CT := [intC e.va, adrF e.ds, intC e.pr]
theorem goTrace : InGo Tryz.prog 53 := InGo.of Tryz.func53 rfl (by decide)
set_option maxHeartbeats 4000000 in
theorem Trace_ok (bs : List Int) (p : Nat) (hb : Bytes bs) : OkB Tryz.prog 53 82 (codes bs p) [] (fun q : Tr => 0 ≤ q.va ∧ q.va < 2) (fun q => .fr (aggT (trCs q))) (fun q => codes bs q.p) := by
  refine OkB.enter Tryz.func53 rfl _ Tryz.ntmps53 rfl ?_
  intro S w g
  (refine Qw (Qx fun K hK => ?_))
  refine Qo 1 rfl rfl (by with_reducible exact zvTrace) rfl rfl rfl ?_
  (refine Qv (hK _ _ (Qq (Qw ?_))); clear hK K; refine Qx (fun K hK => ?_); refine Qz rfl rfl rfl ?_)
  refine Q9 goNext (Next_ok bs p 2 (by decide) (by decide) hb) rfl rfl rfl rfl rfl (fun q hq => ?_)
  obtain ⟨k, p1⟩ := q
  dsimp only at hq ⊢
  (refine Qz rfl rfl rfl ?_)
  refine Q9 goNext (Next_ok bs p1 3 (by decide) (by decide) hb) rfl rfl rfl rfl rfl (fun q hq2 => ?_)
  obtain ⟨x, p2⟩ := q
  dsimp only at hq2 ⊢
  (refine Qk (iadd (by omega) (by omega)) rfl rfl rfl rfl ?_)
  refine Zj rfl rfl (by with_reducible exact uInt) (by with_reducible exact uAddr) (wrap_toFin (n := 167774464 + x) (by omega) (by omega)) rfl ?_
  generalize (⟨(167774464 + x).toNat, _⟩ : Fin 4294967296) = dd
  (refine Qz rfl rfl rfl ?_)
  refine Q9 goDProto (DProto_ok bs p2 hb) rfl rfl rfl rfl rfl (fun q hq3 => ?_)
  obtain ⟨pr, p3⟩ := q
  dsimp only
  skip
  refine Xq rfl (by with_reducible exact bTrace) rfl (.one rfl rfl rfl rfl (.one rfl rfl rfl rfl (.one rfl rfl rfl rfl .nil))) rfl ?_
  refine Qr 3 rfl rfl rfl rfl rfl (by with_reducible exact szTrace) rfl rfl ?_
  (refine Qv (hK _ _ (Qq (Q0 ?_))); clear hK K)
  refine Fin.endB ⟨k, dd, pr, p3⟩ [_] rfl (X4 (n := 3) rfl rfl (by with_reducible exact lTrace) rfl QX) rfl rfl ⟨hq.1, hq.2⟩
end Go.Proofs.YtcelmhkpcdhneaaGreat
namespace Go.Own
open Go.RowKit
variable {X : Ctx} {L : AL} {B : BL} {ops : Array Oper} {K : Act → World → Prop}
theorem Fin.linkX (dd i : Nat) {v : Value} {el n : Nat} {cs : List CT} (hd : look L dd = some (.ct (.ex v))) (hi : bget B i = some (.rowx v el n cs)) (h : Fin X ((dd, .own i) :: L) B K) : Fin X L B K := fun a ρ w hI => by
  have h1 : a.tmps.getD dd undef = v := hI.slot dd _ hd
  obtain ⟨h2, _⟩ := (hI.ent i _ hi).1
  exact h a ρ w (hI.slotx (s := .own i) (h1.trans h2.symm))
theorem Ops.linkX {l : Pl} (dd i : Nat) {v : Value} {el n : Nat} {cs : List CT} (hd : look L dd = some (.ct (.ex v))) (hi : bget B i = some (.rowx v el n cs)) (h : Ops X ops l ((dd, .own i) :: L) B K) : Ops X ops l L B K := Fin.linkX dd i hd hi h
theorem OkB.weak {P : Program} {f : FuncId} {t : TypeId} {cs As : List CT} {α β : Type} {J : α → Prop} {R : α → CT} {D : α → List CT} {J' : β → Prop} {R' : β → CT} {D' : β → List CT} (h : OkB P f t cs As J R D) (hw : ∀ q, J q → ∃ q', J' q' ∧ R q = R' q' ∧ D q = D' q') : OkB P f t cs As J' R' D' := fun S w g us vs h1 h2 h3 h4 h5 =>
  Calls.mono (h S w g us vs h1 h2 h3 h4 h5) (by
    rintro e w' ⟨v, q, he, hJ, hR, hD, hF⟩
    obtain ⟨q', a, b, c⟩ := hw q hJ
    exact ⟨v, q', he, a, b ▸ hR, c ▸ hD, hF⟩)
end Go.Own
namespace Go.Proofs.YtcelmhkpcdhneaaGreat
open Go.Own
attribute [local irreducible] St Ops Go.Own.Fin Ok OkB OkN OkT OkL OkF wpR
abbrev Ad := Fin 4294967296
theorem sAdrs : SlcT Tryz.prog 73 59 1 4 (.int .u32 0) := SlcT.of Tryz.underlying73 (by kernel_rfl) rfl (by decide)
theorem sPths : SlcT Tryz.prog 25 73 1 24 (.slice none 0 0) := SlcT.of Tryz.underlying25 (by kernel_rfl) rfl (by decide)
theorem lAdrs : Ld1 Tryz.prog 73 := Ld1.of _ Tryz.underlying73 rfl
theorem lPths : Ld1 Tryz.prog 25 := Ld1.of _ Tryz.underlying25 rfl
theorem Zp : (Tryz.prog.info? 25).map (·.size) = some 1 := by kernel_rfl
abbrev zNet : Value := .agg #[.int .i64 0, .int .u32 0, .int .i64 0, .slice none 0 0, .int .u32 0]
theorem sNets : SlcT Tryz.prog 70 68 5 56 zNet := SlcT.of Tryz.underlying70 (by kernel_rfl) rfl (by decide)
theorem lNet : LdN Tryz.prog 68 5 := LdN.of _ Tryz.underlying68 rfl (by kernel_rfl)
theorem szNet : (Tryz.prog.info? 68).map (·.size) = some 5 := by kernel_rfl
theorem zvNet : (Tryz.prog.info? 68).map (·.zero) = some (some zNet) := by kernel_rfl
theorem bNet : bInfo Tryz.prog 68 = some (zNet, [(0, some 3), (3, some 1), (4, some 1)]) := by kernel_rfl
theorem fH0 : fldInfo Tryz.prog 68 0 = some (0, some 3) := by kernel_rfl
theorem fH1 : fldInfo Tryz.prog 68 1 = some (3, some 1) := by kernel_rfl
theorem fH2 : fldInfo Tryz.prog 68 2 = some (4, some 1) := by kernel_rfl
abbrev adrsC (p : List Ad) : CT := .fr (sliceT 1 (p.map fun x => [adrF x]))
def adrs (p : List Ad) : List CT := p.map adrF
theorem adrs_frozen (e : Nat) (p : List Ad) : (Ent.row e 1 (adrs p)).frozen (sliceT 1 (p.map fun x => [adrF x])) :=
  ⟨p.map fun x => [adrF x], (flat_one adrF p).symm, by simp, by decide, rfl⟩
theorem adrs_at {p : List Ad} {j : Int} (h0 : 0 ≤ j) (h : j < (p.length : Int)) : (p.map fun x => [adrF x])[j.toNat]? = some [adrF (p.getD j.toNat 0)] := by
  have hl : j.toNat < p.length := by omega
  rw [List.getElem?_map, List.getElem?_eq_getElem hl, List.getD_eq_getElem?_getD, List.getElem?_eq_getElem hl]; rfl
abbrev pthsC (ps : List (List Ad)) : CT := .fr (sliceT 1 (ps.map fun p => [adrsC p]))
def pths (ps : List (List Ad)) : List CT := ps.map adrsC
theorem pths_len (ps : List (List Ad)) : (pths ps).length = ps.length * 1 := by simp [pths]
theorem pths_frozen (e : Nat) (ps : List (List Ad)) : (Ent.row e 1 (pths ps)).frozen (sliceT 1 (ps.map fun p => [adrsC p])) :=
  ⟨ps.map fun x => [adrsC x], (flat_one adrsC ps).symm, by simp, by decide, rfl⟩
theorem pths_at {ps : List (List Ad)} {j : Int} (h0 : 0 ≤ j) (h : j < (ps.length : Int)) : (ps.map fun x => [adrsC x])[j.toNat]? = some [adrsC (ps.getD j.toNat [])] := by
  have hl : j.toNat < ps.length := by omega
  rw [List.getElem?_map, List.getElem?_eq_getElem hl, List.getD_eq_getElem?_getD, List.getElem?_eq_getElem hl]; rfl
theorem pths_get {ps : List (List Ad)} (h : 0 < ps.length) : (pths ps)[0]? = some (adrsC (ps.getD 0 [])) := by
  cases ps with
  | nil => simp at h
  | cons p q => rfl
structure Nt where
  va : Int
  ds : Ad
  pr : Int
  ps : List (List Ad)
  la : Ad
abbrev ntCs (q : Nt) : List CT := [intC q.va, adrF q.ds, intC q.pr, pthsC q.ps, adrF q.la]
structure NtIn (q : Nt) : Prop where
  v0 : 0 ≤ q.va
  v1 : q.va < 2
  l0 : 1 ≤ q.ps.length
  l1 : q.ps.length ≤ 3
  pl : ∀ p ∈ q.ps, 1 ≤ p.length ∧ p.length ≤ 3
def nts (l : List Nt) : List CT := (l.map ntCs).flatten
theorem nts_len (l : List Nt) : (nts l).length = l.length * 5 := el_len (f := ntCs) (n := 5) (fun _ => rfl) l
theorem mem_snocG {α : Type} {P : α → Prop} {xs : List α} {x : α} (h : ∀ y ∈ xs, P y) (hx : P x) : ∀ y ∈ xs ++ [x], P y := fun y hy => by
  rcases List.mem_append.1 hy with h1 | h1
  · exact h y h1
  · rcases List.mem_singleton.1 h1 with rfl; exact hx
theorem dAddr_ok (bs : List Int) (p : Nat) (hb : Bytes bs) : OkB Tryz.prog 32 82 (codes bs p) [] (fun _ : Ad × Nat => True) (fun q => adrF q.1) (fun q => codes bs q.2) :=
  (Address_ok bs p hb).weak fun q hq => ⟨(⟨q.1.toNat, by omega⟩, q.2), trivial, by
    show adrC q.1 = adrC ((q.1.toNat : Nat) : Int)
    rw [Int.toNat_of_nonneg hq.1], rfl⟩
theorem goScene : InGo Tryz.prog 28 := InGo.of Tryz.func28 rfl (by decide)
set_option maxHeartbeats 8000000 in
theorem scene_ok (bs : List Int) (p : Nat) (hb : Bytes bs) : OkB Tryz.prog 28 82 (codes bs p) [] (fun q : Nt × Nat => NtIn q.1) (fun q => .fr (aggT (ntCs q.1))) (fun q => codes bs q.2) := by
  refine OkB.enter Tryz.func28 rfl _ Tryz.ntmps28 rfl ?_
  intro S w g
  (refine Qw (Qx fun K hK => ?_); refine Qo 1 rfl rfl (by with_reducible exact zvNet) rfl rfl rfl ?_; refine Qv (hK _ _ (Qq (Qw ?_))); clear hK K; refine Qx (fun K hK => ?_); refine Qz rfl rfl rfl ?_)
  refine Q9 goTrace (Trace_ok bs p hb) rfl rfl rfl rfl rfl (fun q hq => ?_)
  obtain ⟨va, ds, pr, p1⟩ := q
  dsimp only at hq ⊢
  refine Xq rfl (by with_reducible exact bNet) rfl (.agg rfl rfl rfl rfl .nil) rfl ?_
  (refine Qo 2 rfl rfl (by with_reducible exact zvNet) rfl rfl rfl ?_; refine Qr 5 rfl rfl rfl rfl rfl (by with_reducible exact szNet) rfl rfl ?_; refine Qv (hK _ _ (Qq (Qw ?_))); clear hK K; refine Qx (fun K hK => ?_); refine Qu rfl rfl rfl (by with_reducible first | exact fH0 | exact fH1 | exact fH2 | exact fS0 | exact fS1 | exact fS2 | exact fS3 | exact fS4 | exact fS5 | exact fS6 | exact fS7 | exact fS8 | exact fS9 | exact fS10 | exact fS11) rfl ?_; refine XV rfl rfl (by with_reducible first | exact fR0t | exact fR1t | exact fR2t | exact fN0 | exact fN1 | exact fN4) rfl ?_; refine QQ rfl rfl rfl rfl rfl (by with_reducible first | exact lInt | exact QU | exact lAdrs | exact lPths | exact Qi) rfl ?_; refine Qu rfl rfl rfl (by with_reducible first | exact fH0 | exact fH1 | exact fH2 | exact fS0 | exact fS1 | exact fS2 | exact fS3 | exact fS4 | exact fS5 | exact fS6 | exact fS7 | exact fS8 | exact fS9 | exact fS10 | exact fS11) rfl ?_; refine XX rfl rfl rfl rfl rfl (by with_reducible first | exact Zy | exact zInt | exact Zp | exact ZW) (Nat.le_of_ble_eq_true rfl) ?_; refine Qv (hK _ _ (Qq (Qw (Qw ?_)))); clear hK K; refine Qx (fun K hK => ?_); refine Qz rfl rfl rfl ?_)
  refine Q9 goBool (YQ bs p1 4 (by decide) (by decide) hb) rfl rfl rfl rfl rfl (fun q _ => ?_)
  obtain ⟨b1, p2⟩ := q
  dsimp only
  (refine Qv (hK _ _ (Qq ?_)); clear hK K)
  refine Ze (α := Ad × Nat) (fun _ => True) (fun _ => [(0, .own 0), (2, .own 1), (3, .own 2)]) (fun x => [(2, .box 68 [intC va, adrF ds, intC pr, .ex (.slice none 0 0), adrF x.1]), (1, .box 68 (zNet.cells.toList.map CT.ex)), (0, .box 82 (codes bs x.2))]) (fun x _ => ?_) (fun KK hN => ?_)
  rotate_left
  · refine X5 rfl (fun _ => ?_) (fun _ => ?_)
    · (refine Qx (fun K hK => ?_); refine Qz rfl rfl rfl ?_)
      refine Q9 goAddress (dAddr_ok bs p2 hb) rfl rfl rfl rfl rfl (fun q _ => ?_)
      obtain ⟨a, p3⟩ := q
      dsimp only
      (refine Qu rfl rfl rfl (by with_reducible first | exact fH0 | exact fH1 | exact fH2 | exact fS0 | exact fS1 | exact fS2 | exact fS3 | exact fS4 | exact fS5 | exact fS6 | exact fS7 | exact fS8 | exact fS9 | exact fS10 | exact fS11) rfl ?_; refine XX rfl rfl rfl rfl rfl (by with_reducible first | exact Zy | exact zInt | exact Zp | exact ZW) (Nat.le_of_ble_eq_true rfl) ?_; refine Qv (hK _ _ ?_); clear hK K)
      exact Xj hN (a, p3) trivial (by exact QK rfl ⟨rfl, rfl, rfl, trivial⟩)
    · (refine Q5 ?_)
      exact Xj hN (ds, p2) trivial (by exact QK rfl ⟨rfl, rfl, rfl, trivial⟩)
  obtain ⟨la, p4⟩ := x
  dsimp only
  (refine Qw (Qx fun K hK => ?_); refine Qz rfl rfl rfl ?_)
  refine Q9 goNext (Next_ok bs p4 3 (by decide) (by decide) hb) rfl rfl rfl rfl rfl (fun q hq2 => ?_)
  obtain ⟨lo, p5⟩ := q
  dsimp only at hq2 ⊢
  (refine Qk (iadd (by omega) (by omega)) rfl rfl rfl rfl ?_; refine Qy rfl rfl rfl ?_; refine Qv (hK _ _ (Qq (Qw (Qw ?_)))); clear hK K; refine Qx (fun K hK => ?_); refine Qy rfl rfl rfl ?_; refine Qv (hK _ _ (Qq (Q4 ?_))); clear hK K)
  refine St.nilX 3 73 1 rfl rfl ?_
  refine Qt (α := Int × List (List Ad) × Value × Nat) (fun x => x.1 = x.2.1.length ∧ x.2.1.length ≤ 3 ∧ (∀ q ∈ x.2.1, 1 ≤ q.length ∧ q.length ≤ 3) ∧ x.2.2.1.oneCell' = true)
    (fun x => [(0, .own 0), (2, .own 1), (3, .own 2), (4, .ct (intC (1 + lo))), (5, .ct (intC x.1))])
    (fun x => [(3, .rowx x.2.2.1 73 1 (pths x.2.1)), (2, .box 68 [intC va, adrF ds, intC pr, .ex x.2.2.1, adrF la]), (1, .box 68 (zNet.cells.toList.map CT.ex)), (0, .box 82 (codes bs x.2.2.2))])
    (fun x => 3 - x.2.1.length) (0, [], .slice none 0 0, p5) ⟨rfl, by simp, by simp, rfl⟩ (by exact QK rfl ⟨rfl, rfl, rfl, rfl, rfl, trivial⟩) ?_
  rintro ⟨f, ps, v, p6⟩ ⟨hf, hfl, hps, hv⟩
  dsimp only at hf hfl hps hv ⊢
  (refine Qw (Qw (Qx fun K hK => ?_)); refine Qz rfl rfl rfl ?_; refine Qz rfl rfl rfl ?_)
  refine Q9 goNext (Next_ok bs p6 3 (by decide) (by decide) hb) rfl rfl rfl rfl rfl (fun q hq3 => ?_)
  obtain ⟨x, p7⟩ := q
  dsimp only at hq3 ⊢
  (refine Qk (iadd (by omega) (by omega)) rfl rfl rfl rfl ?_; refine Qk ilss rfl rfl rfl rfl ?_; refine Qv (hK _ _ (Qq ?_)); clear hK K)
  refine Q7 rfl (fun hk => ?_) (fun hk => ?_)
  · (refine Q5 (Qq (Qw (Q4 (Qw (Qx fun K hK => ?_))))); refine Qy rfl rfl rfl ?_; refine Qv (hK _ _ (Qq (Qw (Qw ?_)))); clear hK K; refine Qx (fun K hK => ?_); refine Qy rfl rfl rfl ?_; refine Qv (hK _ _ (Qq (Q4 ?_))); clear hK K)
    refine Zf 6 4 59 1 rfl rfl rfl ?_
    skip
    refine Qt (α := Int × List Ad × Nat) (fun x => 0 ≤ x.1 ∧ x.2.1.length = x.1 ∧ x.1 ≤ 1 + lo)
      (fun x => [(0, .own 0), (2, .own 1), (3, .own 2), (4, .ct (intC (1 + lo))), (5, .ct (intC f)), (6, .own 4), (7, .ct (intC x.1))])
      (fun x => [(4, .row 59 1 (adrs x.2.1)), (3, .rowx v 73 1 (pths ps)), (2, .box 68 [intC va, adrF ds, intC pr, .ex v, adrF la]), (1, .box 68 (zNet.cells.toList.map CT.ex)), (0, .box 82 (codes bs x.2.2))])
      (fun x => (1 + lo - x.1).toNat) (0, [], p7) ⟨by dsimp only; omega, rfl, by dsimp only; omega⟩ (by exact QK rfl ⟨rfl, rfl, rfl, rfl, rfl, rfl, rfl, trivial⟩) ?_
    rintro ⟨i, pp, p8⟩ ⟨hi0, hil, hi1⟩
    dsimp only at hi0 hil hi1 ⊢
    (refine Qw (Qw (Qx fun K hK => ?_)); refine Qz rfl rfl rfl ?_; refine Qz rfl rfl rfl ?_; refine Qk ilss rfl rfl rfl rfl ?_; refine Qv (hK _ _ (Qq ?_)); clear hK K)
    refine Q7 rfl (fun hi => ?_) (fun hi => ?_)
    · (refine Q5 (Qq (Qw (Q4 (Qw (Qx fun K hK => ?_))))); refine Qz rfl rfl rfl ?_)
      refine Q9 goAddress (dAddr_ok bs p8 hb) rfl rfl rfl rfl rfl (fun q _ => ?_)
      obtain ⟨a0, p9⟩ := q
      dsimp only
      (refine Qy rfl rfl rfl ?_; refine Qv (hK _ _ (Qq (Qw (Qw ?_)))); clear hK K; refine Qx (fun K hK => ?_); refine Qz rfl rfl rfl ?_)
      refine Q9 goBool (YQ bs p9 6 (by decide) (by decide) hb) rfl rfl rfl rfl rfl (fun q _ => ?_)
      obtain ⟨b2, p10⟩ := q
      dsimp only
      (refine Qv (hK _ _ (Qq ?_)); clear hK K)
      refine Ze (α := Ad) (fun _ => True) (fun a => [(0, .own 0), (2, .own 1), (3, .own 2), (4, .ct (intC (1 + lo))), (5, .ct (intC f)), (6, .own 4), (7, .ct (intC i)), (8, .ct (adrF a))])
        (fun _ => [(4, .row 59 1 (adrs pp)), (3, .rowx v 73 1 (pths ps)), (2, .box 68 [intC va, adrF ds, intC pr, .ex v, adrF la]), (1, .box 68 (zNet.cells.toList.map CT.ex)), (0, .box 82 (codes bs p10))]) (fun a _ => ?_) (fun KK hN => ?_)
      rotate_left
      · refine X5 rfl (fun _ => ?_) (fun _ => ?_)
        · (refine Qx (fun K hK => ?_); refine Qy rfl rfl rfl ?_; refine Qv (hK _ _ ?_); clear hK K)
          exact Xj hN 0 trivial (by exact QK rfl ⟨rfl, rfl, rfl, rfl, rfl, rfl, rfl, rfl, trivial⟩)
        · (refine Q5 ?_)
          exact Xj hN a0 trivial (by exact QK rfl ⟨rfl, rfl, rfl, rfl, rfl, rfl, rfl, rfl, trivial⟩)
      (refine Qw (Qw (Qx fun K hK => ?_)); refine Qz rfl rfl rfl ?_; refine Qk igtr rfl rfl rfl rfl ?_; refine Qz rfl rfl rfl ?_)
      refine Q8 42 (p := 0 < f) rfl (fun h0 => ?_) (fun h0 => ?_)
      · have hp0 : 0 < ps.length := by omega
        (refine Qz rfl rfl rfl ?_; refine Qu rfl rfl rfl (by with_reducible first | exact fH0 | exact fH1 | exact fH2 | exact fS0 | exact fS1 | exact fS2 | exact fS3 | exact fS4 | exact fS5 | exact fS6 | exact fS7 | exact fS8 | exact fS9 | exact fS10 | exact fS11) rfl ?_; refine QQ rfl rfl rfl rfl rfl (by with_reducible first | exact lInt | exact QU | exact lAdrs | exact lPths | exact Qi) rfl ?_)
        refine Ops.linkX 45 3 rfl rfl ?_
        refine Ops.idxX ps.length rfl rfl rfl (pths_len ps) rfl (by with_reducible exact sPths) (by decide) (by omega) rfl ?_
        refine QQ rfl rfl rfl rfl (pths_get hp0) (by with_reducible exact lAdrs) rfl ?_
        (refine Qd rfl rfl (by with_reducible first | exact sAdrs.und | exact sPths.und | exact sRes.und) (List.length_map ..) rfl ?_; refine Qk ilss rfl rfl rfl rfl ?_; refine QZ rfl rfl rfl rfl ?_; refine Qz rfl rfl rfl ?_)
        refine Q8 51 (p := i < ((ps.getD 0 []).length : Int)) rfl (fun h1 => ?_) (fun h1 => ?_)
        · (refine Qz rfl rfl rfl ?_)
          refine Q9 goBool (YQ bs p10 3 (by decide) (by decide) hb) rfl rfl rfl rfl rfl (fun q _ => ?_)
          obtain ⟨b3, p11⟩ := q
          dsimp only
          (refine Qb rfl rfl rfl ?_; refine QZ rfl rfl rfl rfl ?_; refine Qv (hK _ _ (Qq ?_)); clear hK K)
          refine X5 rfl (fun _ => ?_) (fun _ => ?_)
          · (refine Qx (fun K hK => ?_); refine Qu rfl rfl rfl (by with_reducible first | exact fH0 | exact fH1 | exact fH2 | exact fS0 | exact fS1 | exact fS2 | exact fS3 | exact fS4 | exact fS5 | exact fS6 | exact fS7 | exact fS8 | exact fS9 | exact fS10 | exact fS11) rfl ?_; refine QQ rfl rfl rfl rfl rfl (by with_reducible first | exact lInt | exact QU | exact lAdrs | exact lPths | exact Qi) rfl ?_)
            refine Ops.linkX 57 3 rfl rfl ?_
            refine Ops.idxX ps.length rfl rfl rfl (pths_len ps) rfl (by with_reducible exact sPths) (by decide) (by omega) rfl ?_
            refine QQ rfl rfl rfl rfl (pths_get hp0) (by with_reducible exact lAdrs) rfl ?_
            (refine Qz rfl rfl rfl ?_; refine Ql rfl rfl rfl (by with_reducible exact sAdrs) (by omega) (adrs_at (by omega) (by omega)) rfl ?_; refine Zv rfl rfl rfl (by with_reducible first | exact QU | exact lAdrs) rfl ?_; refine Qy rfl rfl rfl ?_; refine Qv (hK _ _ (Qq ?_)); clear hK K; refine Qx (fun K hK => ?_); refine Qz rfl rfl rfl ?_; refine Qz rfl rfl rfl ?_)
            refine Ops.lit1 rfl rfl (by with_reducible exact sAdrs) rfl rfl rfl ?_
            refine Xk pp.length (adrs (pp ++ [(ps.getD 0 []).getD i.toNat 0])) rfl rfl rfl rfl (by with_reducible exact sAdrs) (by simp [adrs]) rfl (by omega) (by omega) (by simp [adrs]) rfl ?_
            (refine Qy rfl rfl rfl ?_; refine Qv (hK _ _ (Qq ?_)); clear hK K; refine Qx (fun K hK => ?_); refine Qz rfl rfl rfl ?_; refine Qk (iadd (by omega) (by omega)) rfl rfl rfl rfl ?_; refine Qy rfl rfl rfl ?_; refine Qv (hK _ _ (Qa ?_)); clear hK K)
            refine Qg (i + 1, pp ++ [(ps.getD 0 []).getD i.toNat 0], p11) (by dsimp only; omega) ⟨by dsimp only; omega, by simp; omega, by dsimp only; omega⟩ (by exact QK rfl ⟨rfl, rfl, rfl, rfl, rfl, rfl, rfl, trivial⟩)
          · skip
            (refine Q5 (Qq (Qx fun K hK => ?_)); refine Qz rfl rfl rfl ?_; refine Qz rfl rfl rfl ?_)
            refine Ops.lit1 rfl rfl (by with_reducible exact sAdrs) rfl rfl rfl ?_
            refine Xk pp.length (adrs (pp ++ [a])) rfl rfl rfl rfl (by with_reducible exact sAdrs) (by simp [adrs]) rfl (by omega) (by omega) (by simp [adrs]) rfl ?_
            (refine Qy rfl rfl rfl ?_; refine Qv (hK _ _ (Qq ?_)); clear hK K; refine Qx (fun K hK => ?_); refine Qz rfl rfl rfl ?_; refine Qk (iadd (by omega) (by omega)) rfl rfl rfl rfl ?_; refine Qy rfl rfl rfl ?_; refine Qv (hK _ _ (Qa ?_)); clear hK K)
            refine Qg (i + 1, pp ++ [a], p11) (by dsimp only; omega) ⟨by dsimp only; omega, by simp; omega, by dsimp only; omega⟩ (by exact QK rfl ⟨rfl, rfl, rfl, rfl, rfl, rfl, rfl, trivial⟩)
        · skip
          (refine Qj rfl rfl rfl ?_; refine Qj rfl rfl rfl ?_; refine Qj rfl rfl rfl ?_; refine Q2 rfl rfl rfl rfl ?_; refine Qv (hK _ _ (Qq (Qe rfl (Q5 (Qq ?_))))); clear hK K; refine Qx (fun K hK => ?_); refine Qz rfl rfl rfl ?_; refine Qz rfl rfl rfl ?_)
          refine Ops.lit1 rfl rfl (by with_reducible exact sAdrs) rfl rfl rfl ?_
          refine Xk pp.length (adrs (pp ++ [a])) rfl rfl rfl rfl (by with_reducible exact sAdrs) (by simp [adrs]) rfl (by omega) (by omega) (by simp [adrs]) rfl ?_
          (refine Qy rfl rfl rfl ?_; refine Qv (hK _ _ (Qq ?_)); clear hK K; refine Qx (fun K hK => ?_); refine Qz rfl rfl rfl ?_; refine Qk (iadd (by omega) (by omega)) rfl rfl rfl rfl ?_; refine Qy rfl rfl rfl ?_; refine Qv (hK _ _ (Qa ?_)); clear hK K)
          refine Qg (i + 1, pp ++ [a], p10) (by dsimp only; omega) ⟨by dsimp only; omega, by simp; omega, by dsimp only; omega⟩ (by exact QK rfl ⟨rfl, rfl, rfl, rfl, rfl, rfl, rfl, trivial⟩)
      · skip
        (refine Qj rfl rfl rfl ?_; refine Qj rfl rfl rfl ?_; refine Qj rfl rfl rfl ?_; refine Qj rfl rfl rfl ?_; refine Qj rfl rfl rfl ?_; refine Qj rfl rfl rfl ?_; refine Qj rfl rfl rfl ?_; refine Q2 rfl rfl rfl rfl ?_; refine Qz rfl rfl rfl ?_; refine Qj rfl rfl rfl ?_; refine Qj rfl rfl rfl ?_; refine Qj rfl rfl rfl ?_; refine Q2 rfl rfl rfl rfl ?_; refine Qv (hK _ _ (Qq (Qe rfl (Q5 (Qq ?_))))); clear hK K; refine Qx (fun K hK => ?_); refine Qz rfl rfl rfl ?_; refine Qz rfl rfl rfl ?_)
        refine Ops.lit1 rfl rfl (by with_reducible exact sAdrs) rfl rfl rfl ?_
        refine Xk pp.length (adrs (pp ++ [a])) rfl rfl rfl rfl (by with_reducible exact sAdrs) (by simp [adrs]) rfl (by omega) (by omega) (by simp [adrs]) rfl ?_
        (refine Qy rfl rfl rfl ?_; refine Qv (hK _ _ (Qq ?_)); clear hK K; refine Qx (fun K hK => ?_); refine Qz rfl rfl rfl ?_; refine Qk (iadd (by omega) (by omega)) rfl rfl rfl rfl ?_; refine Qy rfl rfl rfl ?_; refine Qv (hK _ _ (Qa ?_)); clear hK K)
        refine Qg (i + 1, pp ++ [a], p10) (by dsimp only; omega) ⟨by dsimp only; omega, by simp; omega, by dsimp only; omega⟩ (by exact QK rfl ⟨rfl, rfl, rfl, rfl, rfl, rfl, rfl, trivial⟩)
    · refine St.frz 4 _ rfl (adrs_frozen _ _) (Z4 rfl) ?_
      (refine Qh (Qq (Qx fun K hK => ?_)); refine Qu rfl rfl rfl (by with_reducible first | exact fH0 | exact fH1 | exact fH2 | exact fS0 | exact fS1 | exact fS2 | exact fS3 | exact fS4 | exact fS5 | exact fS6 | exact fS7 | exact fS8 | exact fS9 | exact fS10 | exact fS11) rfl ?_; refine QQ rfl rfl rfl rfl rfl (by with_reducible first | exact lInt | exact QU | exact lAdrs | exact lPths | exact Qi) rfl ?_; refine Qz rfl rfl rfl ?_)
      refine Ops.lit1 rfl rfl (by with_reducible exact sPths) rfl rfl rfl ?_
      refine Ops.link 68 3 rfl rfl ?_
      refine Xk ps.length (pths (ps ++ [pp])) rfl rfl rfl rfl (by with_reducible exact sPths) (pths_len ps) rfl (by omega) (by omega) (by simp [pths]) rfl ?_
      (refine Qu rfl rfl rfl (by with_reducible first | exact fH0 | exact fH1 | exact fH2 | exact fS0 | exact fS1 | exact fS2 | exact fS3 | exact fS4 | exact fS5 | exact fS6 | exact fS7 | exact fS8 | exact fS9 | exact fS10 | exact fS11) rfl ?_)
      refine Ops.name 71 3 rfl rfl (fun v' hv' => ?_)
      refine XX (c := .ex v') rfl rfl rfl rfl hv' (by with_reducible exact Zp) (Nat.le_of_ble_eq_true rfl) ?_
      (refine Qv (hK _ _ (Qq ?_)); clear hK K; refine Qx (fun K hK => ?_); refine Qz rfl rfl rfl ?_; refine Qk (iadd (by omega) (by omega)) rfl rfl rfl rfl ?_; refine Qy rfl rfl rfl ?_; refine Qv (hK _ _ (Qa ?_)); clear hK K)
      refine Qg (f + 1, ps ++ [pp], v', p8) (by simp; omega) ⟨by simp; omega, by simp; omega, mem_snocG hps (by omega), hv'⟩ (by exact QK rfl ⟨rfl, rfl, rfl, rfl, rfl, trivial⟩)
  · refine St.frzX 3 2 3 _ rfl rfl rfl (pths_frozen _ _) (Z4 rfl) ?_
    (refine Qh (Qq (Qw (Qx fun K hK => ?_))); refine Qm (n := 5) rfl rfl rfl rfl rfl (by with_reducible exact lNet) rfl ?_; refine Qr 5 rfl rfl rfl rfl rfl (by with_reducible exact szNet) rfl rfl ?_; refine Qv (hK _ _ (Qq (Q0 ?_))); clear hK K)
    refine Fin.endB (⟨va, ds, pr, ps, la⟩, p7) [_] rfl (X4 (n := 5) rfl rfl (by with_reducible exact lNet) rfl QX) rfl rfl ⟨hq.1, hq.2, by dsimp only; omega, hfl, hps⟩
end Go.Proofs.YtcelmhkpcdhneaaGreat
namespace Go.Own
open Go.RowKit
variable {X : Ctx} {L : AL} {B : BL}
theorem Ops.nilRow {ops : Array Oper} {K : Act → World → Prop} {l : Pl} (dd i : Nat) (e n : Nat) (hd : look L dd = some (.ct (.ex (.slice none 0 0)))) (hN : noN i L = true) (hB : bget B i = none) (h : Ops X ops l ((dd, .own i) :: L) ((i, .row e n []) :: B) K) : Ops X ops l L B K := Fin.nilRow dd i e n hd hN hB h
theorem addW (x y : Int) : IBin .add .i64 x .i64 y (.int .i64 (IntKind.i64.wrap (x + y))) := .of fun _ _ _ => rfl
end Go.Own
namespace Go.Proofs.YtcelmhkpcdhneaaGreat
open Go.Own
attribute [local irreducible] St Ops Go.Own.Fin Ok OkB OkN OkT OkL OkF wpR
instance : Inhabited Nt := ⟨⟨0, 0, 0, [], 0⟩⟩
abbrev nt0 : Nt := ⟨0, 0, 0, [], 0⟩
theorem nt_len (q : Nt) : (ntCs q).length = 5 := rfl
abbrev zNums : Value := .agg #[.int .i64 0, .int .i64 0, .int .i64 0, .int .i64 0, .int .i64 0, .int .i64 0, .int .i64 0, .int .i64 0, .int .i64 0, .int .i64 0, .int .i64 0, .int .i64 0, .int .i64 0, .int .i64 0, .int .i64 0, .int .i64 0]
theorem aNums : ArrT Tryz.prog 72 3 16 1 zNums := ⟨Tryz.underlying72, by kernel_rfl, by kernel_rfl⟩
theorem zvNums : (Tryz.prog.info? 72).map (·.zero) = some (some zNums) := by kernel_rfl
theorem rss_snocD (l : List Rs) (r : Rs) : rss (l ++ [r]) = rss l ++ rsCs r := by rw [rss_app]; simp [rss]
theorem nets_get {l : List Nt} (h : ∀ q ∈ l, NtIn q) {i : Nat} (hi : i < l.length) : NtIn (l.getD i nt0) := by
  rw [List.getD_eq_getElem?_getD, List.getElem?_eq_getElem hi]
  exact h _ (List.getElem_mem hi)
theorem mem_getG {α : Type} {P : α → Prop} {xs : List α} {z : α} (h : ∀ y ∈ xs, P y) {i : Nat} (hi : i < xs.length) : P (xs.getD i z) := by
  rw [List.getD_eq_getElem?_getD, List.getElem?_eq_getElem hi]
  exact h _ (List.getElem_mem hi)
theorem mem_setG {α : Type} {P : α → Prop} {xs : List α} {x : α} (h : ∀ y ∈ xs, P y) (hx : P x) (i : Nat) : ∀ y ∈ xs.set i x, P y := fun y hy => by
  rcases List.mem_or_eq_of_mem_set hy with h1 | h1
  · exact h y h1
  · rw [h1]; exact hx
structure RSt where
  k : Int
  ns : List Nt
  tm : Int
  id : Int
  nu : List Int
  out : List Rs
  p : Nat
structure ROk (most : Int) (s : RSt) : Prop where
  k0 : 0 ≤ s.k
  kl : s.out.length + s.k ≤ most
  n1 : 1 ≤ s.ns.length
  n2 : s.ns.length ≤ 2
  nt : ∀ q ∈ s.ns, NtIn q
  t0 : 0 ≤ s.tm
  t1 : s.tm + 100 * s.k ≤ 20000
  i0 : 0 ≤ s.id
  i1 : s.id + 10 * s.k ≤ 80000
  nl : s.nu.length = 16
end Go.Proofs.YtcelmhkpcdhneaaGreat
namespace Go.Proofs.YtcelmhkpcdhneaaGreat
open Go.Own
attribute [local irreducible] St Ops Go.Own.Fin Ok OkB OkN OkT OkL OkF wpR
theorem goCResult : InGo Tryz.prog 31 := InGo.of Tryz.func31 rfl (by decide)
set_option maxHeartbeats 8000000 in
theorem CResult_ok (bs : List Int) (p : Nat) (hb : Bytes bs) : OkB Tryz.prog 31 82 (codes bs p) [] (fun _ : Rs × Nat => True) (fun q => rsC q.1) (fun q => codes bs q.2) := by
  refine OkB.enter Tryz.func31 rfl _ Tryz.ntmps31 rfl ?_
  intro S w g
  refine Qw ?_
  refine Qx (fun K hK => ?_)
  refine Qo 1 rfl rfl (by with_reducible exact zvRes) rfl rfl rfl ?_
  (refine Qv (hK _ _ (Qq (Qw ?_))); clear hK K; refine Qx (fun K hK => ?_); refine Qz rfl rfl rfl ?_)
  refine Q9 goNext (Xu bs p 2 (by decide) (by decide) hb) rfl rfl rfl rfl rfl (fun q hk0 => ?_)
  obtain ⟨k0, p0⟩ := q
  dsimp only at hk0 ⊢
  (refine Qz rfl rfl rfl ?_)
  refine Q9 goNext (Xu bs p0 2 (by decide) (by decide) hb) rfl rfl rfl rfl rfl (fun q hk1 => ?_)
  obtain ⟨k1, p1⟩ := q
  dsimp only at hk1 ⊢
  (refine Qz rfl rfl rfl ?_)
  refine Q9 goNext (Xu bs p1 4 (by decide) (by decide) hb) rfl rfl rfl rfl rfl (fun q hk2 => ?_)
  obtain ⟨k2, p2⟩ := q
  dsimp only at hk2 ⊢
  (refine Qz rfl rfl rfl ?_)
  refine Q9 goNext (Xu bs p2 50 (by decide) (by decide) hb) rfl rfl rfl rfl rfl (fun q hk3 => ?_)
  obtain ⟨k3, p3⟩ := q
  dsimp only at hk3 ⊢
  (refine Qz rfl rfl rfl ?_)
  refine Q9 goCAddress (CAddress_ok bs p3 hb) rfl rfl rfl rfl rfl (fun q _ => ?_)
  obtain ⟨ad, p4⟩ := q
  dsimp only
  (refine Qz rfl rfl rfl ?_)
  refine Q9 goCProto (CProto_ok bs p4 hb) rfl rfl rfl rfl rfl (fun q _ => ?_)
  obtain ⟨pr, p5⟩ := q
  dsimp only
  (refine Qz rfl rfl rfl ?_)
  refine Q9 goNext (Xu bs p5 3 (by decide) (by decide) hb) rfl rfl rfl rfl rfl (fun q hk6 => ?_)
  obtain ⟨k6, p6⟩ := q
  dsimp only at hk6 ⊢
  (refine Qz rfl rfl rfl ?_)
  refine Q9 goNext (Xu bs p6 4 (by decide) (by decide) hb) rfl rfl rfl rfl rfl (fun q hk7 => ?_)
  obtain ⟨k7, p7⟩ := q
  dsimp only at hk7 ⊢
  (refine Qk (iadd (by omega) (by omega)) rfl rfl rfl rfl ?_)
  refine Xq rfl (by with_reducible exact bRes) rfl (.one rfl rfl rfl rfl (.one rfl rfl rfl rfl (.one rfl rfl rfl rfl (.one rfl rfl rfl rfl (.one rfl rfl rfl rfl (.one rfl rfl rfl rfl (.one rfl rfl rfl rfl (.one rfl rfl rfl rfl .nil)))))))) rfl ?_
  refine Qo 2 rfl rfl (by with_reducible exact zvRes) rfl rfl rfl ?_
  (refine Qr 17 rfl rfl rfl rfl rfl (by with_reducible exact szRes) rfl rfl ?_; refine Qv (hK _ _ (Qq (Qw ?_))); clear hK K)
  refine St.drawR (by with_reducible exact mixed) 6 (.p 0 (.p 2 (.f 1 (.m 3 (.p 4 (.p 5 (.a 6 .done))))))) (by kernel_rfl) (fun K hK => ?_)
  refine Xv ?_
  (refine Qu rfl rfl rfl (by with_reducible first | exact fH0 | exact fH1 | exact fH2 | exact fS0 | exact fS1 | exact fS2 | exact fS3 | exact fS4 | exact fS5 | exact fS6 | exact fS7 | exact fS8 | exact fS9 | exact fS10 | exact fS11) rfl ?_)
  refine Qv ?_
  refine Xv ?_
  (refine Qz rfl rfl rfl ?_)
  refine Qv ?_
  refine Zr (c := intC k3) rfl rfl rfl rfl rfl (by with_reducible exact lInt) (Xr rfl) rfl ?_
  refine Xh rfl goNext (Xu bs p7 30 (by decide) (by decide) hb) rfl rfl rfl rfl rfl (fun y hy0 => ?_)
  obtain ⟨dd, p8⟩ := y
  dsimp only at hy0 ⊢
  refine Xv ?_
  (refine Qk (iadd (by omega) (by omega)) rfl rfl rfl rfl ?_)
  refine Qv ?_
  refine Xv ?_
  (refine Qu rfl rfl rfl (by with_reducible first | exact fH0 | exact fH1 | exact fH2 | exact fS0 | exact fS1 | exact fS2 | exact fS3 | exact fS4 | exact fS5 | exact fS6 | exact fS7 | exact fS8 | exact fS9 | exact fS10 | exact fS11) rfl ?_)
  refine Qv ?_
  refine Fin.ra ?_
  (refine XX rfl rfl rfl rfl rfl (by with_reducible first | exact Zy | exact zInt | exact Zp | exact ZW) (Nat.le_of_ble_eq_true rfl) ?_)
  refine Qv ?_
  refine Z0 ?_
  refine hK _ _ ?_
  clear hK K
  generalize k3 + dd = bk
  (refine Qq (Qw (Qw (Qx fun K hK => ?_))); refine Qz rfl rfl rfl ?_)
  skip
  refine Q9 goNext (Xu bs p8 3 (by decide) (by decide) hb) rfl rfl rfl rfl rfl (fun q hk9 => ?_)
  obtain ⟨k9, p9⟩ := q
  dsimp only at hk9 ⊢
  (refine Qk igtr rfl rfl rfl rfl ?_; refine Qv (hK _ _ (Qq ?_)); clear hK K)
  refine Ze (α := Rs × Nat) (fun _ => True) (fun _ => [(0, .own 0), (2, .own 1), (3, .own 2)]) (fun x => [(2, .box 77 (rsCs x.1)), (1, .box 77 (zRes.cells.toList.map CT.ex)), (0, .box 82 (codes bs x.2))]) (fun x _ => ?_) (fun KK hN => ?_)
  rotate_left
  · refine Q7 rfl (fun _ => ?_) (fun _ => ?_)
    · (refine Qw (Qx fun K hK => ?_); refine Qz rfl rfl rfl ?_)
      skip
      refine Q9 goNext (Xu bs p9 6 (by decide) (by decide) hb) rfl rfl rfl rfl rfl (fun q hk10 => ?_)
      obtain ⟨k10, p10⟩ := q
      dsimp only at hk10 ⊢
      (refine Qk ieql rfl rfl rfl rfl ?_; refine Qu rfl rfl rfl (by with_reducible first | exact fH0 | exact fH1 | exact fH2 | exact fS0 | exact fS1 | exact fS2 | exact fS3 | exact fS4 | exact fS5 | exact fS6 | exact fS7 | exact fS8 | exact fS9 | exact fS10 | exact fS11) rfl ?_; refine XX rfl rfl rfl rfl rfl (by with_reducible first | exact Zy | exact zInt | exact Zp | exact ZW) (Nat.le_of_ble_eq_true rfl) ?_; refine Qu rfl rfl rfl (by with_reducible first | exact fH0 | exact fH1 | exact fH2 | exact fS0 | exact fS1 | exact fS2 | exact fS3 | exact fS4 | exact fS5 | exact fS6 | exact fS7 | exact fS8 | exact fS9 | exact fS10 | exact fS11) rfl ?_; refine XX rfl rfl rfl rfl rfl (by with_reducible first | exact Zy | exact zInt | exact Zp | exact ZW) (Nat.le_of_ble_eq_true rfl) ?_; refine Qv (hK _ _ (Qq ?_)); clear hK K; refine Qx (fun K hK => ?_); refine Qz rfl rfl rfl ?_)
      refine Q9 goCAddress (CAddress_ok bs p10 hb) rfl rfl rfl rfl rfl (fun q _ => ?_)
      obtain ⟨fr, p11⟩ := q
      dsimp only
      (refine Qz rfl rfl rfl ?_)
      refine Q9 goNext (Xu bs p11 5 (by decide) (by decide) hb) rfl rfl rfl rfl rfl (fun q hk12 => ?_)
      obtain ⟨k12, p12⟩ := q
      dsimp only at hk12 ⊢
      (refine Qk (iadd (by omega) (by omega)) rfl rfl rfl rfl ?_; refine Qz rfl rfl rfl ?_)
      refine Q9 goNext (Xu bs p12 4 (by decide) (by decide) hb) rfl rfl rfl rfl rfl (fun q hk13 => ?_)
      obtain ⟨k13, p13⟩ := q
      dsimp only at hk13 ⊢
      (refine Qz rfl rfl rfl ?_)
      refine Q9 goNext (Xu bs p13 5 (by decide) (by decide) hb) rfl rfl rfl rfl rfl (fun q hk14 => ?_)
      obtain ⟨k14, p14⟩ := q
      dsimp only at hk14 ⊢
      (refine Qk (iadd (by omega) (by omega)) rfl rfl rfl rfl ?_; refine Qz rfl rfl rfl ?_)
      refine Q9 goNext (Xu bs p14 300 (by decide) (by decide) hb) rfl rfl rfl rfl rfl (fun q hk15 => ?_)
      obtain ⟨k15, p15⟩ := q
      dsimp only at hk15 ⊢
      (refine Qz rfl rfl rfl ?_)
      refine Q9 goNext (Xu bs p15 2 (by decide) (by decide) hb) rfl rfl rfl rfl rfl (fun q hk16 => ?_)
      obtain ⟨k16, p16⟩ := q
      dsimp only at hk16 ⊢
      (refine Qk (iadd (by omega) (by omega)) rfl rfl rfl rfl ?_)
      refine Xq rfl (by with_reducible exact bAns) rfl (.one rfl rfl rfl rfl (.one rfl rfl rfl rfl (.one rfl rfl rfl rfl (.one rfl rfl rfl rfl (.one rfl rfl rfl rfl (.one rfl rfl rfl rfl .nil)))))) rfl ?_
      (refine Qu rfl rfl rfl (by with_reducible first | exact fH0 | exact fH1 | exact fH2 | exact fS0 | exact fS1 | exact fS2 | exact fS3 | exact fS4 | exact fS5 | exact fS6 | exact fS7 | exact fS8 | exact fS9 | exact fS10 | exact fS11) rfl ?_)
      refine Ops.stNA rfl rfl rfl rfl rfl (by exact szAns) (Nat.le_of_ble_eq_true rfl) ?_
      (refine Qv (hK _ _ ?_); clear hK K)
      exact Xj hN (⟨k0, k1, k2, k3, ad, pr, k6, 1 + k7, true, decide (k10 = 5), bk, fr, 1 + k12, k13, 60 + k14, k15, 1 + k16⟩, p16) trivial (by exact QK rfl ⟨rfl, rfl, rfl, trivial⟩)
    · (refine Q5 ?_)
      exact Xj hN (⟨k0, k1, k2, k3, ad, pr, k6, 1 + k7, false, false, bk, 0, 0, 0, 0, 0, 0⟩, p9) trivial (by exact QK rfl ⟨rfl, rfl, rfl, trivial⟩)
  obtain ⟨⟨va, ru, nu, tm, dst, pr2, fl, tt, an, db, bk2, fr, ki, co, le, id, qu⟩, q0⟩ := x
  dsimp only
  (refine Qw (Qw (Qx fun K hK => ?_)); refine Qz rfl rfl rfl ?_)
  refine Q9 goNext (Xu bs q0 16 (by decide) (by decide) hb) rfl rfl rfl rfl rfl (fun q hq => ?_)
  obtain ⟨sw, q1⟩ := q
  dsimp only at hq ⊢
  refine Qv (hK _ _ ?_)
  clear hK K
  refine Qq ?_
  refine Ze (α := Rs × Nat) (fun _ => True) (fun _ => [(0, .own 0), (2, .own 1), (3, .own 2)]) (fun x => [(2, .box 77 (rsCs x.1)), (1, .box 77 (zRes.cells.toList.map CT.ex)), (0, .box 82 (codes bs x.2))]) (fun x _ => ?_) (fun KK hN => ?_)
  rotate_left
  · (refine Q4 (Qw (Qx fun K hK => ?_)); refine Qk ieql rfl rfl rfl rfl ?_; refine Qy rfl rfl rfl ?_; refine Qv (hK _ _ (Qq ?_)); clear hK K)
    refine Q7 rfl (fun _ => ?_) (fun _ => ?_)
    · (refine Qx (fun K hK => ?_); refine Qz rfl rfl rfl ?_)
      refine Q9 goInt (Int_ok bs q1 hb) rfl rfl rfl rfl rfl (fun q _ => ?_)
      obtain ⟨x1, q2⟩ := q
      dsimp only
      (refine Qz rfl rfl rfl ?_)
      refine Q9 goInt (Int_ok bs q2 hb) rfl rfl rfl rfl rfl (fun q _ => ?_)
      obtain ⟨x2, q3⟩ := q
      dsimp only
      (refine Qu rfl rfl rfl (by with_reducible first | exact fH0 | exact fH1 | exact fH2 | exact fS0 | exact fS1 | exact fS2 | exact fS3 | exact fS4 | exact fS5 | exact fS6 | exact fS7 | exact fS8 | exact fS9 | exact fS10 | exact fS11) rfl ?_; refine XX rfl rfl rfl rfl rfl (by with_reducible first | exact Zy | exact zInt | exact Zp | exact ZW) (Nat.le_of_ble_eq_true rfl) ?_; refine Qu rfl rfl rfl (by with_reducible first | exact fH0 | exact fH1 | exact fH2 | exact fS0 | exact fS1 | exact fS2 | exact fS3 | exact fS4 | exact fS5 | exact fS6 | exact fS7 | exact fS8 | exact fS9 | exact fS10 | exact fS11) rfl ?_; refine XX rfl rfl rfl rfl rfl (by with_reducible first | exact Zy | exact zInt | exact Zp | exact ZW) (Nat.le_of_ble_eq_true rfl) ?_; refine Qv (hK _ _ (XJ ?_)); clear hK K)
      exact Xj hN (⟨va, ru, nu, x1, dst, pr2, fl, tt, an, db, x2, fr, ki, co, le, id, qu⟩, q3) trivial (by exact QK rfl ⟨rfl, rfl, rfl, trivial⟩)
    (refine Qw (Qx fun K hK => ?_); refine Qk ieql rfl rfl rfl rfl ?_; refine Qy rfl rfl rfl ?_; refine Qv (hK _ _ (Qq ?_)); clear hK K)
    refine Q7 rfl (fun _ => ?_) (fun _ => ?_)
    · (refine Qx (fun K hK => ?_); refine Qz rfl rfl rfl ?_)
      refine Q9 goInt (Int_ok bs q1 hb) rfl rfl rfl rfl rfl (fun q _ => ?_)
      obtain ⟨x1, q2⟩ := q
      dsimp only
      (refine Qz rfl rfl rfl ?_)
      refine Q9 goInt (Int_ok bs q2 hb) rfl rfl rfl rfl rfl (fun q _ => ?_)
      obtain ⟨x2, q3⟩ := q
      dsimp only
      (refine Qz rfl rfl rfl ?_)
      refine Q9 goInt (Int_ok bs q3 hb) rfl rfl rfl rfl rfl (fun q _ => ?_)
      obtain ⟨x3, q4⟩ := q
      dsimp only
      (refine Qu rfl rfl rfl (by with_reducible first | exact fH0 | exact fH1 | exact fH2 | exact fS0 | exact fS1 | exact fS2 | exact fS3 | exact fS4 | exact fS5 | exact fS6 | exact fS7 | exact fS8 | exact fS9 | exact fS10 | exact fS11) rfl ?_; refine XX rfl rfl rfl rfl rfl (by with_reducible first | exact Zy | exact zInt | exact Zp | exact ZW) (Nat.le_of_ble_eq_true rfl) ?_; refine Qu rfl rfl rfl (by with_reducible first | exact fH0 | exact fH1 | exact fH2 | exact fS0 | exact fS1 | exact fS2 | exact fS3 | exact fS4 | exact fS5 | exact fS6 | exact fS7 | exact fS8 | exact fS9 | exact fS10 | exact fS11) rfl ?_; refine XX rfl rfl rfl rfl rfl (by with_reducible first | exact Zy | exact zInt | exact Zp | exact ZW) (Nat.le_of_ble_eq_true rfl) ?_; refine Qu rfl rfl rfl (by with_reducible first | exact fH0 | exact fH1 | exact fH2 | exact fS0 | exact fS1 | exact fS2 | exact fS3 | exact fS4 | exact fS5 | exact fS6 | exact fS7 | exact fS8 | exact fS9 | exact fS10 | exact fS11) rfl ?_; refine XX rfl rfl rfl rfl rfl (by with_reducible first | exact Zy | exact zInt | exact Zp | exact ZW) (Nat.le_of_ble_eq_true rfl) ?_; refine Qv (hK _ _ (XJ ?_)); clear hK K)
      exact Xj hN (⟨va, ru, nu, tm, dst, x3, x1, x2, an, db, bk2, fr, ki, co, le, id, qu⟩, q4) trivial (by exact QK rfl ⟨rfl, rfl, rfl, trivial⟩)
    (refine Qw (Qx fun K hK => ?_); refine Qk ieql rfl rfl rfl rfl ?_; refine Qy rfl rfl rfl ?_; refine Qv (hK _ _ (Qq ?_)); clear hK K)
    refine Q7 rfl (fun _ => ?_) (fun _ => ?_)
    · (refine Qx (fun K hK => ?_); refine Qz rfl rfl rfl ?_)
      refine Q9 goInt (Int_ok bs q1 hb) rfl rfl rfl rfl rfl (fun q _ => ?_)
      obtain ⟨x1, q2⟩ := q
      dsimp only
      (refine Qz rfl rfl rfl ?_)
      refine Q9 goInt (Int_ok bs q2 hb) rfl rfl rfl rfl rfl (fun q _ => ?_)
      obtain ⟨x2, q3⟩ := q
      dsimp only
      (refine Qu rfl rfl rfl (by with_reducible first | exact fH0 | exact fH1 | exact fH2 | exact fS0 | exact fS1 | exact fS2 | exact fS3 | exact fS4 | exact fS5 | exact fS6 | exact fS7 | exact fS8 | exact fS9 | exact fS10 | exact fS11) rfl ?_; refine XV rfl rfl (by with_reducible first | exact fR0t | exact fR1t | exact fR2t | exact fN0 | exact fN1 | exact fN4) rfl ?_; refine XX rfl rfl rfl rfl rfl (by with_reducible first | exact Zy | exact zInt | exact Zp | exact ZW) (Nat.le_of_ble_eq_true rfl) ?_; refine Qu rfl rfl rfl (by with_reducible first | exact fH0 | exact fH1 | exact fH2 | exact fS0 | exact fS1 | exact fS2 | exact fS3 | exact fS4 | exact fS5 | exact fS6 | exact fS7 | exact fS8 | exact fS9 | exact fS10 | exact fS11) rfl ?_; refine XV rfl rfl (by with_reducible first | exact fR0t | exact fR1t | exact fR2t | exact fN0 | exact fN1 | exact fN4) rfl ?_; refine XX rfl rfl rfl rfl rfl (by with_reducible first | exact Zy | exact zInt | exact Zp | exact ZW) (Nat.le_of_ble_eq_true rfl) ?_; refine Qv (hK _ _ (XJ ?_)); clear hK K)
      exact Xj hN (⟨va, ru, nu, tm, dst, pr2, fl, tt, an, db, bk2, fr, x1, co, le, x2, qu⟩, q3) trivial (by exact QK rfl ⟨rfl, rfl, rfl, trivial⟩)
    (refine Qw (Qx fun K hK => ?_); refine Qk ieql rfl rfl rfl rfl ?_; refine Qy rfl rfl rfl ?_; refine Qv (hK _ _ (Qq ?_)); clear hK K)
    refine Q7 rfl (fun _ => ?_) (fun _ => ?_)
    · (refine Qx (fun K hK => ?_); refine Qz rfl rfl rfl ?_)
      refine Q9 goInt (Int_ok bs q1 hb) rfl rfl rfl rfl rfl (fun q _ => ?_)
      obtain ⟨x1, q2⟩ := q
      dsimp only
      (refine Qz rfl rfl rfl ?_)
      refine Q9 goInt (Int_ok bs q2 hb) rfl rfl rfl rfl rfl (fun q _ => ?_)
      obtain ⟨x2, q3⟩ := q
      dsimp only
      (refine Qz rfl rfl rfl ?_)
      refine Q9 goInt (Int_ok bs q3 hb) rfl rfl rfl rfl rfl (fun q _ => ?_)
      obtain ⟨x3, q4⟩ := q
      dsimp only
      (refine Qu rfl rfl rfl (by with_reducible first | exact fH0 | exact fH1 | exact fH2 | exact fS0 | exact fS1 | exact fS2 | exact fS3 | exact fS4 | exact fS5 | exact fS6 | exact fS7 | exact fS8 | exact fS9 | exact fS10 | exact fS11) rfl ?_; refine XX rfl rfl rfl rfl rfl (by with_reducible first | exact Zy | exact zInt | exact Zp | exact ZW) (Nat.le_of_ble_eq_true rfl) ?_; refine Qu rfl rfl rfl (by with_reducible first | exact fH0 | exact fH1 | exact fH2 | exact fS0 | exact fS1 | exact fS2 | exact fS3 | exact fS4 | exact fS5 | exact fS6 | exact fS7 | exact fS8 | exact fS9 | exact fS10 | exact fS11) rfl ?_; refine XX rfl rfl rfl rfl rfl (by with_reducible first | exact Zy | exact zInt | exact Zp | exact ZW) (Nat.le_of_ble_eq_true rfl) ?_; refine Qu rfl rfl rfl (by with_reducible first | exact fH0 | exact fH1 | exact fH2 | exact fS0 | exact fS1 | exact fS2 | exact fS3 | exact fS4 | exact fS5 | exact fS6 | exact fS7 | exact fS8 | exact fS9 | exact fS10 | exact fS11) rfl ?_; refine XX rfl rfl rfl rfl rfl (by with_reducible first | exact Zy | exact zInt | exact Zp | exact ZW) (Nat.le_of_ble_eq_true rfl) ?_; refine Qv (hK _ _ (XJ ?_)); clear hK K)
      exact Xj hN (⟨x1, x2, x3, tm, dst, pr2, fl, tt, an, db, bk2, fr, ki, co, le, id, qu⟩, q4) trivial (by exact QK rfl ⟨rfl, rfl, rfl, trivial⟩)
    (refine Q5 (XJ ?_))
    exact Xj hN (⟨va, ru, nu, tm, dst, pr2, fl, tt, an, db, bk2, fr, ki, co, le, id, qu⟩, q1) trivial (by exact QK rfl ⟨rfl, rfl, rfl, trivial⟩)
  obtain ⟨r, q2⟩ := x
  dsimp only
  (refine Qw (Qx fun K hK => ?_); refine Qm (n := 17) rfl rfl rfl rfl rfl (by with_reducible exact lRes) rfl ?_; refine Qr 17 rfl rfl rfl rfl rfl (by with_reducible exact szRes) rfl rfl ?_; refine Qv (hK _ _ (Qq (Q0 ?_))); clear hK K)
  refine Xe (r, q2) [_] rfl (X4 (n := 17) rfl rfl (by with_reducible exact lRes) rfl QX) rfl rfl trivial
end Go.Proofs.YtcelmhkpcdhneaaGreat
