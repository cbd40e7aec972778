/- The proof that VersionsLists holds for every input, without conditions: part 5 of 5. -/
import Derived.Test.YtcelmhkpcdhneaaGreatZ4
import Derived.ProofKit
import Derived.OpenShut
import Derived.ShutString
import Derived.ChangeOld
import Derived.DataElems
import Derived.SizedLaws
import Derived.Test.YtcelmhkpcdhneaaGreatRows
namespace Go.Proofs.YtcelmhkpcdhneaaGreat
open Go.Own Go.Limbs
attribute [local irreducible] St Ops Go.Own.Fin Ok OkB OkN OkT OkL OkF
theorem same_list {α : Type} {a b : List α} {z : α} (hl : a.length = b.length) (h : ∀ j, j < a.length → a.getD j z = b.getD j z) : a = b := by
  apply List.ext_getElem hl
  intro j h1 h2
  have := h j h1
  rw [List.getD_eq_getElem?_getD, List.getElem?_eq_getElem h1, List.getD_eq_getElem?_getD, List.getElem?_eq_getElem h2] at this
  exact this
theorem goSameRs : InGo Tryz.prog 10 := InGo.of Tryz.func10 rfl (by decide)
set_option maxHeartbeats 2000000 in
theorem SameRs_ok (a b : List Rs) (ha : a.length ≤ 100000) (hb : b.length ≤ 100000) : Ok Tryz.prog 10 [rssC a, rssC b] (boolC (decide (a = b))) := by
  refine Ok.enter Tryz.func10 rfl _ Tryz.ntmps10 rfl ?_
  intro S w
  (refine Qw (Qx fun K hK => ?_); refine Qy rfl rfl rfl ?_; refine Qv (hK _ _ (Qq (Qw (Qw ?_)))); clear hK K; refine Qx (fun K hK => ?_); refine Qz rfl rfl rfl ?_; refine Qd rfl rfl (by with_reducible exact sRes.und) (List.length_map ..) rfl ?_; refine Qz rfl rfl rfl ?_; refine Qd rfl rfl (by with_reducible exact sRes.und) (List.length_map ..) rfl ?_; refine Qk ineq rfl rfl rfl rfl ?_; refine Qv (hK _ _ (Qq ?_)); clear hK K)
  refine Q7 rfl (fun h => ?_) (fun h => ?_)
  · (refine Qw (Qx fun K hK => ?_); refine Qy rfl rfl rfl ?_; refine Qv (hK _ _ (Qq (Q0 (QV ?_)))); clear hK K)
    refine Q1 [_] rfl (QJ rfl QX) (by rw [decide_eq_false (show ¬ a = b from fun e => by subst e; exact h rfl)]; rfl) rfl
  have hab : a.length = b.length := by
    by_cases e : a.length = b.length
    · exact e
    · exact absurd (fun h2 => e (by exact_mod_cast h2)) h
  (refine Q5 (Qq (Qw (Qw (Qx fun K hK => ?_)))); refine Qy rfl rfl rfl ?_; refine Qv (hK _ _ (Qq (Q4 ?_))); clear hK K)
  refine Qt (α := Nat) (fun i => i ≤ a.length ∧ ∀ j, j < i → a.getD j rs0 = b.getD j rs0)
    (fun i => [(0, .ct (rssC a)), (1, .ct (rssC b)), (5, .ct (intC i))]) (fun _ => []) (fun i => a.length - i) 0 ⟨Nat.zero_le _, fun j h => absurd h (Nat.not_lt_zero j)⟩ (by exact QK rfl ⟨rfl, rfl, rfl, trivial⟩) ?_
  rintro i ⟨hi, hv⟩
  dsimp only at hi hv ⊢
  (refine Qw (Qw (Qx fun K hK => ?_)); refine Qz rfl rfl rfl ?_; refine Qz rfl rfl rfl ?_; refine Qd rfl rfl (by with_reducible exact sRes.und) (List.length_map ..) rfl ?_; refine Qk ilss rfl rfl rfl rfl ?_; refine Qv (hK _ _ (Qq ?_)); clear hK K)
  refine Q7 rfl (fun h2 => ?_) (fun h2 => ?_)
  · have e2 : (i : Int).toNat = i := Int.toNat_natCast i
    (refine Q5 (Qq (Qw (Q4 (Qw ?_)))))
    refine Qp (by with_reducible exact mixed) 9 (.p 0 (.p 1 (.p 2 (.p 4 (.p 5 (.p 6 (.f 3 (.f 7 (.p 8 .done))))))))) (by kernel_rfl) (fun K hK => ?_)
    (refine Qz rfl rfl rfl ?_; refine Qz rfl rfl rfl ?_; refine Ql rfl rfl rfl (by with_reducible exact sRes) (by omega) (Yq (by omega) (by omega)) rfl ?_; refine Qz rfl rfl rfl ?_; refine Qz rfl rfl rfl ?_; refine Ql rfl rfl rfl (by with_reducible exact sRes) (by omega) (Yq (by omega) (by omega)) rfl ?_; refine Qs (n := 17) rfl rfl rfl (by with_reducible exact lRes) rfl rfl ?_; refine Qs (n := 17) rfl rfl rfl (by with_reducible exact lRes) rfl rfl ?_)
    rw [e2]
    refine neRs' _ _ rfl rfl rfl rfl rfl ?_
    (refine Qv (hK _ _ (Qq ?_)); clear hK K)
    refine Q7 rfl (fun h3 => ?_) (fun h3 => ?_)
    · (refine Qw (Qx fun K hK => ?_); refine Qy rfl rfl rfl ?_; refine Qv (hK _ _ (Qq (Q0 (Q6 (QV (QV (Q6 (QV ?_)))))))); clear hK K)
      refine Q1 [_] rfl (QJ rfl QX) (by rw [decide_eq_false (show ¬ a = b from fun e => by subst e; exact h3 rfl)]; rfl) rfl
    · (refine Q5 (Qq (Qx fun K hK => ?_)); refine Qz rfl rfl rfl ?_; refine Qk (iadd (by omega) (by omega)) rfl rfl rfl rfl ?_; refine Qy rfl rfl rfl ?_; refine Qv (hK _ _ (Qa ?_)); clear hK K)
      refine Qg (i + 1) (by omega) ⟨by omega, ?_⟩ (by exact QK rfl ⟨rfl, rfl, by simp only [Int.natCast_add]; rfl, trivial⟩)
      intro j hj
      rcases Nat.lt_or_ge j i with h4 | h4
      · exact hv j h4
      · have : j = i := by omega
        rw [this]; exact Decidable.not_not.1 h3
  · (refine Qh (Qq (Qw (Qx fun K hK => ?_))); refine Qy rfl rfl rfl ?_; refine Qv (hK _ _ (Qq (Q0 ?_))); clear hK K)
    refine Q1 [_] rfl (QJ rfl QX) (by rw [decide_eq_true (same_list hab (fun j hj => hv j (by omega)))]; rfl) rfl
theorem rss_drop (l : List Rs) (i : Nat) : (rss l).drop (i * 17) = rss (l.drop i) := el_drop Xs l i
theorem rss_ones (l : List Rs) : ones (rss l) = true := el_ones (fun _ => rfl) l
theorem rss_spl (l m : List Rs) (i : Nat) : spl (rss l) (i * 17) (rss m) = rss (l.take i ++ m ++ l.drop (i + m.length)) := by
  unfold spl
  rw [rss_take, Xw, ← Nat.add_mul, rss_drop, rss_app, rss_app]
theorem shift_eqA {α : Type} (l : List α) (c : α) {k : Nat} (hk : k ≤ l.length) : (((l ++ [c]).take (k + 1) ++ ((l ++ [c]).drop k).take (l.length + 1 - (k + 1)) ++ (l ++ [c]).drop (k + 1 + (((l ++ [c]).drop k).take (l.length + 1 - (k + 1))).length)).set k c) = l.take k ++ c :: l.drop k := by
  obtain ⟨a, b, rfl, rfl⟩ : ∃ a b, l = a ++ b ∧ a.length = k := ⟨l.take k, l.drop k, (List.take_append_drop k l).symm, by simp; omega⟩
  have h1 : (a ++ b ++ [c]).drop a.length = b ++ [c] := by rw [List.append_assoc, List.drop_left]
  have h2 : (a ++ b).length + 1 - (a.length + 1) = b.length := by simp
  have h3 : (b ++ [c]).take b.length = b := by rw [List.take_left]
  rw [h1, h2, h3, List.take_left, List.drop_left]
  obtain ⟨e, r, he⟩ : ∃ e r, b ++ [c] = e :: r := by cases b with
    | nil => exact ⟨c, [], rfl⟩
    | cons e r => exact ⟨e, r ++ [c], rfl⟩
  have h4 : (a ++ b ++ [c]).take (a.length + 1) = a ++ [e] := by rw [List.append_assoc, he, List.take_append]; simp [List.take_of_length_le]
  have h5 : (a ++ b ++ [c]).drop (a.length + 1 + b.length) = [] := by rw [List.drop_of_length_le]; simp; omega
  rw [h4, h5, List.append_nil, List.append_assoc, List.set_append_right _ _ (Nat.le_refl _)]
  simp
theorem dropA {α : Type} {l : List α} {i : Nat} {z : α} (h : i < l.length) : l.drop i = l.getD i z :: l.drop (i + 1) := by
  rw [List.drop_eq_getElem_cons h, List.getD_eq_getElem?_getD, List.getElem?_eq_getElem h]; rfl
theorem gorOrder : InGo Tryz.prog 36 := InGo.of Tryz.func36 rfl (by decide)
set_option maxHeartbeats 8000000 in
theorem rOrder_ok (l : List Rs) (hl : l.length ≤ 10000) : Ok Tryz.prog 36 [rssC l] (rssC (ordF cmpR rs0 okR l [])) := by
  refine Ok.enter Tryz.func36 rfl _ Tryz.ntmps36 rfl ?_
  intro S w
  (refine Qw (Qx fun K hK => ?_); refine Qy rfl rfl rfl ?_; refine Qv (hK _ _ (Qq (Qw ?_))); clear hK K; refine Qx (fun K hK => ?_); refine Qy rfl rfl rfl ?_; refine Qv (hK _ _ (Qq (Qw (Qw ?_)))); clear hK K; refine Qx (fun K hK => ?_); refine Qy rfl rfl rfl ?_; refine Qv (hK _ _ (Qq (Q4 ?_))); clear hK K)
  refine Zf 3 0 77 17 rfl rfl rfl ?_
  skip
  refine Qt (α := Nat × List Rs) (fun x => x.1 ≤ l.length ∧ ordF cmpR rs0 okR (l.drop x.1) x.2 = ordF cmpR rs0 okR l [] ∧ x.2.length ≤ x.1)
    (fun x => [(0, .ct (rssC l)), (3, .own 0), (4, .ct (intC x.1))]) (fun x => [(0, .row 77 17 (rss x.2))]) (fun x => l.length - x.1) (0, []) ⟨Nat.zero_le _, rfl, Nat.le_refl _⟩ (by exact QK rfl ⟨rfl, rfl, rfl, trivial⟩) ?_
  rintro ⟨i, out⟩ ⟨hi, hs, hol⟩
  dsimp only at hi hs hol ⊢
  (refine Qw (Qw (Qx fun K hK => ?_)); refine Qz rfl rfl rfl ?_; refine Qz rfl rfl rfl ?_; refine Qd rfl rfl (by with_reducible exact sRes.und) (List.length_map ..) rfl ?_; refine Qk ilss rfl rfl rfl rfl ?_; refine Qv (hK _ _ (Qq ?_)); clear hK K)
  refine Q7 rfl (fun h => ?_) (fun h => ?_)
  rotate_left
  · have hi' : i = l.length := by omega
    rw [hi', List.drop_length] at hs
    refine St.freeze 0 _ rfl (Zd _ _) X1 ?_
    (refine Qh (Qq (Qw (Qx fun K hK => ?_))); refine Qz rfl rfl rfl ?_; refine Qy rfl rfl rfl ?_; refine Qv (hK _ _ (Qq (Q0 ?_))); clear hK K)
    refine Q1 [_] rfl (QJ rfl QX) (by rw [← hs]; rfl) rfl
  have e2 : (i : Int).toNat = i := Int.toNat_natCast i
  rw [dropA (z := rs0) (l := l) (i := i) (by omega)] at hs
  simp only [ordF] at hs
  (refine Q5 (Qq (Qw (Q4 (Qw (Qw (Qx fun K hK => ?_)))))); refine Qz rfl rfl rfl ?_; refine Qz rfl rfl rfl ?_; refine Ql rfl rfl rfl (by with_reducible exact sRes) (by omega) (Yq (by omega) (by omega)) rfl ?_; refine Qs (n := 17) rfl rfl rfl (by with_reducible exact lRes) rfl rfl ?_)
  rw [e2]
  generalize hc : l.getD i rs0 = c at hs
  skip
  refine Ops.callF gorValidR rfl (rValidR_ok c) rfl rfl rfl rfl ?_
  (refine Qb rfl rfl rfl ?_; refine Qv (hK _ _ (Qq ?_)); clear hK K)
  refine X5 rfl (fun h2 => ?_) (fun h2 => ?_)
  · rw [if_neg (by intro h3; rw [h3] at h2; cases h2)] at hs
    (refine Qh (Qq (Qx fun K hK => ?_)); refine Qz rfl rfl rfl ?_; refine Qk (iadd (by omega) (by omega)) rfl rfl rfl rfl ?_; refine Qy rfl rfl rfl ?_; refine Qv (hK _ _ (Qa ?_)); clear hK K)
    refine Qg (i + 1, out) (by dsimp only; omega) ⟨by dsimp only; omega, hs, by dsimp only; omega⟩ (by exact QK rfl ⟨rfl, rfl, by simp only [Int.natCast_add]; rfl, trivial⟩)
  rw [if_pos (by cases h3 : okR c with | true => rfl | false => rw [h3] at h2; cases h2)] at hs
  (refine Q5 (Qq (Qw (Qx fun K hK => ?_))); refine Qz rfl rfl rfl ?_)
  refine Zk out.length rfl rfl rfl (by decide) (Xw out) (by with_reducible exact sRes.und) rfl ?_
  (refine Qy rfl rfl rfl ?_; refine Qv (hK _ _ (Qq (Qw (Q4 ?_)))); clear hK K)
  refine Qt (α := Nat) (fun k => k ≤ out.length ∧ posF cmpR rs0 out c k = posF cmpR rs0 out c out.length)
    (fun k => [(0, .ct (rssC l)), (3, .own 0), (4, .ct (intC i)), (5, .ct (intC k))]) (fun _ => [(0, .row 77 17 (rss out))]) (fun k => k) out.length ⟨Nat.le_refl _, rfl⟩ (by exact QK rfl ⟨rfl, rfl, rfl, rfl, trivial⟩) ?_
  rintro k ⟨hk, hp⟩
  dsimp only at hk hp ⊢
  (refine Qw (Qw ?_))
  refine Qp (by with_reducible exact mixed) 15 (.p 0 (.p 1 (.p 2 (.p 3 (.p 4 (.p 5 (.p 6 (.p 8 (.p 9 (.p 10 (.f 7 (.f 11 (.m 12 (.p 13 (.p 14 .done))))))))))))))) (by kernel_rfl) (fun K hK => ?_)
  (refine Qz rfl rfl rfl ?_; refine Qk igtr rfl rfl rfl rfl ?_; refine Qz rfl rfl rfl ?_)
  refine Q8 22 rfl (fun h3 => ?_) (fun h3 => ?_)
  · have e1 : ((k : Int) - 1).toNat = k - 1 := by omega
    rw [posF_step _ _ _ _ (by omega)] at hp
    (refine Qz rfl rfl rfl ?_; refine Qz rfl rfl rfl ?_; refine Qk (isub (by omega) (by omega)) rfl rfl rfl rfl ?_)
    refine XY out.length rfl rfl rfl (Xw out) rfl (by with_reducible exact sRes) (by omega) (by omega) rfl ?_
    (refine Qz rfl rfl rfl ?_; refine Qz rfl rfl rfl ?_; refine Ql rfl rfl rfl (by with_reducible exact sRes) (by omega) (Yq (by omega) (by omega)) rfl ?_)
    refine ldE rsCs rs0 Xs rfl rfl rfl rfl rfl (by omega) (by with_reducible exact lRes) rfl ?_
    rw [e1]
    (refine Qs (n := 17) rfl rfl rfl (by with_reducible exact lRes) rfl rfl ?_)
    rw [e2, hc]
    generalize hx : out.getD (k - 1) rs0 = x at hp
    refine Q3 gorCmpR (rcmpR_ok x c) rfl rfl rfl rfl ?_
    (refine Qk igtr rfl rfl rfl rfl ?_; refine QZ rfl rfl rfl rfl ?_; refine Qv (hK _ _ (Qq ?_)); clear hK K)
    refine Q7 rfl (fun h4 => ?_) (fun h4 => ?_)
    · rw [if_pos h4] at hp
      (refine Q5 (Qq (Q4 (Qx fun K hK => ?_))); refine Qz rfl rfl rfl ?_; refine Qk (isub (by omega) (by omega)) rfl rfl rfl rfl ?_; refine Qy rfl rfl rfl ?_; refine Qv (hK _ _ (XJ (Qa ?_))); clear hK K)
      refine Qg (k - 1) (by omega) ⟨by omega, hp⟩ (by rw [show ((k - 1 : Nat) : Int) = (k : Int) - 1 by omega]; exact QK rfl ⟨rfl, rfl, rfl, rfl, trivial⟩)
    rw [if_neg h4] at hp
    (refine Qh (Qq (Qw (Qw ?_))))
    refine Qp (by with_reducible exact mixed) 15 (.p 0 (.p 1 (.p 2 (.p 3 (.p 4 (.p 5 (.p 6 (.p 8 (.p 9 (.p 10 (.f 7 (.f 11 (.m 12 (.p 13 (.p 14 .done))))))))))))))) (by kernel_rfl) (fun K hK => ?_)
    (refine Qz rfl rfl rfl ?_; refine Qk igtr rfl rfl rfl rfl ?_; refine Qz rfl rfl rfl ?_)
    refine Q8 39 rfl (fun _ => ?_) (fun h5 => absurd h3 h5)
    (refine Qz rfl rfl rfl ?_; refine Qz rfl rfl rfl ?_; refine Qk (isub (by omega) (by omega)) rfl rfl rfl rfl ?_)
    refine XY out.length rfl rfl rfl (Xw out) rfl (by with_reducible exact sRes) (by omega) (by omega) rfl ?_
    (refine Qz rfl rfl rfl ?_; refine Qz rfl rfl rfl ?_; refine Ql rfl rfl rfl (by with_reducible exact sRes) (by omega) (Yq (by omega) (by omega)) rfl ?_)
    refine ldE rsCs rs0 Xs rfl rfl rfl rfl rfl (by omega) (by with_reducible exact lRes) rfl ?_
    rw [e1, hx]
    (refine Qs (n := 17) rfl rfl rfl (by with_reducible exact lRes) rfl rfl ?_)
    rw [e2, hc]
    refine Q3 gorCmpR (rcmpR_ok x c) rfl rfl rfl rfl ?_
    (refine Qk ieql rfl rfl rfl rfl ?_; refine QZ rfl rfl rfl rfl ?_; refine Qv (hK _ _ (Qq ?_)); clear hK K)
    refine Q7 rfl (fun h5 => ?_) (fun h5 => ?_)
    · have hput : putF cmpR rs0 out c = out := by
        unfold putF
        rw [← hp, if_pos ⟨by omega, by rw [hx]; exact h5⟩]
      rw [hput] at hs
      (refine Qh (Qq (Qx fun K hK => ?_)); refine Qz rfl rfl rfl ?_; refine Qk (iadd (by omega) (by omega)) rfl rfl rfl rfl ?_; refine Qy rfl rfl rfl ?_; refine Qv (hK _ _ (Qa ?_)); clear hK K)
      refine Qg (i + 1, out) (by dsimp only; omega) ⟨by dsimp only; omega, hs, by dsimp only; omega⟩ (by exact QK rfl ⟨rfl, rfl, by simp only [Int.natCast_add]; rfl, trivial⟩)
    have hput : putF cmpR rs0 out c = out.take k ++ c :: out.drop k := by
      unfold putF
      rw [← hp, if_neg (fun h6 => h5 (by rw [← hx]; exact h6.2))]
    have e3 : ((k : Int) + 1).toNat = k + 1 := by omega
    have e4 : (k : Int).toNat = k := by omega
    generalize hl2' : (out ++ [c]).take (k + 1) ++ ((out ++ [c]).drop k).take (out.length + 1 - (k + 1)) ++ (out ++ [c]).drop (k + 1 + (((out ++ [c]).drop k).take (out.length + 1 - (k + 1))).length) = l2
    have hl3 : l2.set k c = out.take k ++ c :: out.drop k := by rw [← hl2']; exact shift_eqA out c hk
    have hlen2 : k < l2.length := by
      have := congrArg List.length hl3
      simp at this
      omega
    have hlen3 : l2.length = out.length + 1 := by
      have := congrArg List.length hl3
      simp at this
      omega
    have hl2 : rss l2 = spl (rss (out ++ [c])) (((k : Int) + 1).toNat * 17) (((rss (out ++ [c])).drop ((k : Int).toNat * 17)).take (min (out.length + 1 - (k : Int).toNat) (out.length + 1 - ((k : Int) + 1).toNat) * 17)) := by
      rw [e3, e4, show min (out.length + 1 - k) (out.length + 1 - (k + 1)) = out.length + 1 - (k + 1) by omega, rss_drop, rss_take, rss_spl, ← hl2']
    (refine Q5 (Qq (Qw (Qx fun K hK => ?_))); refine Qz rfl rfl rfl ?_; refine Qz rfl rfl rfl ?_; refine Qz rfl rfl rfl ?_; refine Ql rfl rfl rfl (by with_reducible exact sRes) (by omega) (Yq (by omega) (by omega)) rfl ?_; refine Qs (n := 17) rfl rfl rfl (by with_reducible exact lRes) rfl rfl ?_)
    rw [e2, hc]
    refine Xm (n := 17) rfl rfl (by with_reducible exact sRes) rfl rfl (by decide) rfl ?_
    refine Xk out.length (rss (out ++ [c])) rfl rfl rfl rfl (by with_reducible exact sRes) (Xw out) rfl (by omega) (by omega) (rss_snoc out c) rfl ?_
    (refine Qy rfl rfl rfl ?_; refine Qv (hK _ _ (Qq (Qw ?_))); clear hK K)
    refine Qp (by with_reducible exact mixed) 7 (.p 0 (.p 1 (.p 2 (.p 4 (.p 5 (.p 3 (.p 6 (.a 7 .done)))))))) (by kernel_rfl) (fun K hK => ?_)
    (refine Qz rfl rfl rfl ?_; refine Qz rfl rfl rfl ?_; refine Qk (iadd (by omega) (by omega)) rfl rfl rfl rfl ?_; refine Qz rfl rfl rfl ?_; refine Qz rfl rfl rfl ?_)
    refine Ops.copyIn (out.length + 1) (rss l2) rfl rfl rfl rfl rfl (by with_reducible exact sRes) (by rw [Xw]; simp) (by omega) (by omega) (by omega) (by omega) (by omega) (rss_ones _) rfl hl2 rfl rfl rfl ?_
    (refine Qv (hK _ _ (Qq ?_)); clear hK K; refine Qx (fun K hK => ?_); refine Qz rfl rfl rfl ?_; refine Qz rfl rfl rfl ?_; refine Qz rfl rfl rfl ?_; refine Qz rfl rfl rfl ?_; refine Ql rfl rfl rfl (by with_reducible exact sRes) (by omega) (Yq (by omega) (by omega)) rfl ?_; refine Qs (n := 17) rfl rfl rfl (by with_reducible exact lRes) rfl rfl ?_)
    rw [e2, hc]
    refine XY (out.length + 1) rfl rfl rfl (by rw [Xw, hlen3]) rfl (by with_reducible exact sRes) (by omega) (by omega) rfl ?_
    refine stE rsCs c Xs rfl rfl rfl rfl rfl (by rw [e4]; omega) (by with_reducible exact szRes) ?_
    rw [e4, hl3]
    (refine Qv (hK _ _ (Qq ?_)); clear hK K; refine Qx (fun K hK => ?_); refine Qz rfl rfl rfl ?_; refine Qk (iadd (by omega) (by omega)) rfl rfl rfl rfl ?_; refine Qy rfl rfl rfl ?_; refine Qv (hK _ _ (Qa ?_)); clear hK K)
    rw [hput] at hs
    refine Qg (i + 1, out.take k ++ c :: out.drop k) (by dsimp only; omega) ⟨by dsimp only; omega, hs, by simp only [List.length_append, List.length_take, List.length_cons, List.length_drop]; omega⟩ (by exact QK rfl ⟨rfl, rfl, by simp only [Int.natCast_add]; rfl, trivial⟩)
  · have hk0 : k = 0 := by omega
    subst hk0
    have hp : 0 = posF cmpR rs0 out c out.length := by rw [← hp]; rfl
    (refine Qj rfl rfl rfl ?_; refine Qj rfl rfl rfl ?_; refine Qj rfl rfl rfl ?_; refine Qj rfl rfl rfl ?_; refine Qj rfl rfl rfl ?_; refine Qj rfl rfl rfl ?_; refine Qj rfl rfl rfl ?_; refine Qj rfl rfl rfl ?_; refine Qj rfl rfl rfl ?_; refine Qj rfl rfl rfl ?_; refine Qj rfl rfl rfl ?_; refine Q2 rfl rfl rfl rfl ?_; refine Qv (hK _ _ (Qq (Qe rfl (Qh (Qq (Qw (Qw ?_))))))); clear hK K)
    refine Qp (by with_reducible exact mixed) 15 (.p 0 (.p 1 (.p 2 (.p 3 (.p 4 (.p 5 (.p 6 (.p 8 (.p 9 (.p 10 (.f 7 (.f 11 (.m 12 (.p 13 (.p 14 .done))))))))))))))) (by kernel_rfl) (fun K hK => ?_)
    (refine Qz rfl rfl rfl ?_; refine Qk igtr rfl rfl rfl rfl ?_; refine Qz rfl rfl rfl ?_; refine Qj rfl rfl rfl ?_; refine Qj rfl rfl rfl ?_; refine Qj rfl rfl rfl ?_; refine Qj rfl rfl rfl ?_; refine Qj rfl rfl rfl ?_; refine Qj rfl rfl rfl ?_; refine Qj rfl rfl rfl ?_; refine Qj rfl rfl rfl ?_; refine Qj rfl rfl rfl ?_; refine Qj rfl rfl rfl ?_; refine Qj rfl rfl rfl ?_; refine Q2 rfl rfl rfl rfl ?_; refine Qv (hK _ _ (Qq (Qe rfl (Q5 (Qq (Qw ?_)))))); clear hK K; refine Qx (fun K hK => ?_); refine Qz rfl rfl rfl ?_; refine Qz rfl rfl rfl ?_; refine Qz rfl rfl rfl ?_; refine Ql rfl rfl rfl (by with_reducible exact sRes) (by omega) (Yq (by omega) (by omega)) rfl ?_; refine Qs (n := 17) rfl rfl rfl (by with_reducible exact lRes) rfl rfl ?_)
    refine Q8 39 rfl (fun h5 => absurd h5 h3) (fun _ => ?_)
    skip
    have hput : putF cmpR rs0 out c = out.take 0 ++ c :: out.drop 0 := by
      unfold putF
      rw [← hp, if_neg (fun h6 => h6.1 rfl)]
    have e3 : (((0 : Nat) : Int) + 1).toNat = 0 + 1 := by omega
    have e4 : ((0 : Nat) : Int).toNat = 0 := by omega
    generalize hl2' : (out ++ [c]).take (0 + 1) ++ ((out ++ [c]).drop 0).take (out.length + 1 - (0 + 1)) ++ (out ++ [c]).drop (0 + 1 + (((out ++ [c]).drop 0).take (out.length + 1 - (0 + 1))).length) = l2
    have hl3 : l2.set 0 c = out.take 0 ++ c :: out.drop 0 := by rw [← hl2']; exact shift_eqA out c hk
    have hlen2 : 0 < l2.length := by
      have := congrArg List.length hl3
      simp at this
      omega
    have hlen3 : l2.length = out.length + 1 := by
      have := congrArg List.length hl3
      simp at this
      omega
    have hl2 : rss l2 = spl (rss (out ++ [c])) ((((0 : Nat) : Int) + 1).toNat * 17) (((rss (out ++ [c])).drop (((0 : Nat) : Int).toNat * 17)).take (min (out.length + 1 - ((0 : Nat) : Int).toNat) (out.length + 1 - (((0 : Nat) : Int) + 1).toNat) * 17)) := by
      rw [e3, e4, show min (out.length + 1 - 0) (out.length + 1 - (0 + 1)) = out.length + 1 - (0 + 1) by omega, rss_drop, rss_take, rss_spl, ← hl2']
    skip
    rw [e2, hc]
    refine Xm (n := 17) rfl rfl (by with_reducible exact sRes) rfl rfl (by decide) rfl ?_
    refine Xk out.length (rss (out ++ [c])) rfl rfl rfl rfl (by with_reducible exact sRes) (Xw out) rfl (by omega) (by omega) (rss_snoc out c) rfl ?_
    (refine Qy rfl rfl rfl ?_; refine Qv (hK _ _ (Qq (Qw ?_))); clear hK K)
    refine Qp (by with_reducible exact mixed) 7 (.p 0 (.p 1 (.p 2 (.p 4 (.p 5 (.p 3 (.p 6 (.a 7 .done)))))))) (by kernel_rfl) (fun K hK => ?_)
    (refine Qz rfl rfl rfl ?_; refine Qz rfl rfl rfl ?_; refine Qk (iadd (by omega) (by omega)) rfl rfl rfl rfl ?_; refine Qz rfl rfl rfl ?_; refine Qz rfl rfl rfl ?_)
    refine Ops.copyIn (out.length + 1) (rss l2) rfl rfl rfl rfl rfl (by with_reducible exact sRes) (by rw [Xw]; simp) (by omega) (by omega) (by omega) (by omega) (by omega) (rss_ones _) rfl hl2 rfl rfl rfl ?_
    (refine Qv (hK _ _ (Qq ?_)); clear hK K; refine Qx (fun K hK => ?_); refine Qz rfl rfl rfl ?_; refine Qz rfl rfl rfl ?_; refine Qz rfl rfl rfl ?_; refine Qz rfl rfl rfl ?_; refine Ql rfl rfl rfl (by with_reducible exact sRes) (by omega) (Yq (by omega) (by omega)) rfl ?_; refine Qs (n := 17) rfl rfl rfl (by with_reducible exact lRes) rfl rfl ?_)
    rw [e2, hc]
    refine XY (out.length + 1) rfl rfl rfl (by rw [Xw, hlen3]) rfl (by with_reducible exact sRes) (by omega) (by omega) rfl ?_
    refine stE rsCs c Xs rfl rfl rfl rfl rfl (by rw [e4]; omega) (by with_reducible exact szRes) ?_
    rw [e4, hl3]
    (refine Qv (hK _ _ (Qq ?_)); clear hK K; refine Qx (fun K hK => ?_); refine Qz rfl rfl rfl ?_; refine Qk (iadd (by omega) (by omega)) rfl rfl rfl rfl ?_; refine Qy rfl rfl rfl ?_; refine Qv (hK _ _ (Qa ?_)); clear hK K)
    rw [hput] at hs
    refine Qg (i + 1, out.take 0 ++ c :: out.drop 0) (by dsimp only; omega) ⟨by dsimp only; omega, hs, by simp only [List.length_append, List.length_take, List.length_cons, List.length_drop]; omega⟩ (by exact QK rfl ⟨rfl, rfl, by simp only [Int.natCast_add]; rfl, trivial⟩)
end Go.Proofs.YtcelmhkpcdhneaaGreat
namespace Go.Proofs.YtcelmhkpcdhneaaGreat
open Go.Own
attribute [local irreducible] St Ops Go.Own.Fin Ok OkB OkN OkT OkL OkF wpR
theorem subW (x y : Int) : IBin .sub .i64 x .i64 y (.int .i64 (IntKind.i64.wrap (x - y))) := .of fun _ _ _ => rfl
theorem rss_cell {l : List Rs} {j : Nat} (o : Nat) (h : j < l.length) (ho : o < 17) : (rss l)[j * 17 + o]? = (rsCs (l.getD j rs0))[o]? := el_cell Xs rs0 h ho
theorem goShuffled : InGo Tryz.prog 7 := InGo.of Tryz.func7 rfl (by decide)
set_option maxHeartbeats 8000000 in
theorem Shuffled_ok (bs : List Int) (p : Nat) (l : List Rs) (hl : l.length ≤ 100) (hb : Bytes bs) : OkB Tryz.prog 7 82 (codes bs p) [rssC l] (fun q : List Rs × Nat => q.1.length ≤ 2 * l.length) (fun q => rssC q.1) (fun q => codes bs q.2) := by
  refine OkB.enter Tryz.func7 rfl _ Tryz.ntmps7 rfl ?_
  intro S w g
  (refine Qw (Qx fun K hK => ?_); refine Qy rfl rfl rfl ?_; refine Qv (hK _ _ (Qq (Qw ?_))); clear hK K; refine Qx (fun K hK => ?_); refine Qy rfl rfl rfl ?_; refine Qv (hK _ _ (Qq (Qw (Qw ?_)))); clear hK K; refine Qx (fun K hK => ?_); refine Qy rfl rfl rfl ?_; refine Qv (hK _ _ (Qq (Q4 ?_))); clear hK K)
  refine Zf 5 1 77 17 rfl rfl rfl ?_
  refine Qt (α := Int × List Rs × Nat) (fun x => 0 ≤ x.1 ∧ x.1 ≤ l.length ∧ (x.2.1.length : Int) ≤ 2 * x.1)
    (fun x => [(0, .own 0), (1, .ct (rssC l)), (5, .own 1), (6, .ct (intC x.1))]) (fun x => [(1, .row 77 17 (rss x.2.1)), (0, .box 82 (codes bs x.2.2))]) (fun x => (l.length - x.1).toNat) (0, [], p) ⟨by dsimp only; omega, by dsimp only; omega, by simp⟩ (by exact QK rfl ⟨rfl, rfl, rfl, rfl, trivial⟩) ?_
  rintro ⟨i, out, p1⟩ ⟨hi0, hi1, ho⟩
  dsimp only at hi0 hi1 ho ⊢
  (refine Qw (Qw (Qx fun K hK => ?_)); refine Qz rfl rfl rfl ?_; refine Qz rfl rfl rfl ?_; refine Qd rfl rfl (by with_reducible exact sRes.und) (List.length_map ..) rfl ?_; refine Qk ilss rfl rfl rfl rfl ?_; refine Qv (hK _ _ (Qq ?_)); clear hK K)
  refine Q7 rfl (fun hk => ?_) (fun hk => ?_)
  · (refine Q5 (Qq (Qw (Q4 (Qw (Qx fun K hK => ?_))))); refine Qz rfl rfl rfl ?_; refine Qz rfl rfl rfl ?_)
    refine Zk out.length rfl rfl rfl (by decide) (Xw out) (by with_reducible exact sRes.und) rfl ?_
    (refine Qk (iadd (by omega) (by omega)) rfl rfl rfl rfl ?_)
    refine Q9 goNext (Xu bs p1 (out.length + 1) (by omega) (by omega) hb) rfl rfl rfl rfl rfl (fun q hq => ?_)
    obtain ⟨kk, p2⟩ := q
    dsimp only at hq ⊢
    obtain ⟨k, rfl⟩ : ∃ k : Nat, kk = (k : Int) := ⟨kk.toNat, by omega⟩
    have hk2 : k ≤ out.length := by omega
    have e3 : ((k : Int) + 1).toNat = k + 1 := by omega
    have e4 : (k : Int).toNat = k := by omega
    generalize hl2' : (out ++ [rs0]).take (k + 1) ++ ((out ++ [rs0]).drop k).take (out.length + 1 - (k + 1)) ++ (out ++ [rs0]).drop (k + 1 + (((out ++ [rs0]).drop k).take (out.length + 1 - (k + 1))).length) = l2
    have hl3 : l2.set k rs0 = out.take k ++ rs0 :: out.drop k := by rw [← hl2']; exact shift_eqA out rs0 hk2
    have hlen3 : l2.length = out.length + 1 := by
      have := congrArg List.length hl3
      simp at this
      omega
    have hl2 : rss l2 = spl (rss (out ++ [rs0])) (((k : Int) + 1).toNat * 17) (((rss (out ++ [rs0])).drop ((k : Int).toNat * 17)).take (min (out.length + 1 - (k : Int).toNat) (out.length + 1 - ((k : Int) + 1).toNat) * 17)) := by
      rw [e3, e4, show min (out.length + 1 - k) (out.length + 1 - (k + 1)) = out.length + 1 - (k + 1) by omega, rss_drop, rss_take, rss_spl, ← hl2']
    clear hl3 hl2'
    (refine Qy rfl rfl rfl ?_; refine Qv (hK _ _ (Qq (Qw ?_))); clear hK K; refine Qx (fun K hK => ?_); refine Qz rfl rfl rfl ?_)
    refine Xq rfl (by with_reducible exact bRes) rfl .nil rfl ?_
    refine Xm (n := 17) rfl rfl (by with_reducible exact sRes) rfl rfl (by decide) rfl ?_
    refine Xk out.length (rss (out ++ [rs0])) rfl rfl rfl rfl (by with_reducible exact sRes) (Xw out) rfl (by omega) (by omega) (rss_snoc out rs0) rfl ?_
    (refine Qy rfl rfl rfl ?_; refine Qv (hK _ _ (Qq (Qw ?_))); clear hK K)
    refine Qp (by with_reducible exact mixed) 7 (.p 0 (.p 1 (.p 2 (.p 4 (.p 5 (.p 3 (.p 6 (.a 7 .done)))))))) (by kernel_rfl) (fun K hK => ?_)
    (refine Qz rfl rfl rfl ?_; refine Qz rfl rfl rfl ?_; refine Qk (iadd (by omega) (by omega)) rfl rfl rfl rfl ?_; refine Qz rfl rfl rfl ?_; refine Qz rfl rfl rfl ?_)
    refine Ops.copyIn (out.length + 1) (rss l2) rfl rfl rfl rfl rfl (by with_reducible exact sRes) (by rw [Xw]; simp) (by omega) (by omega) (by omega) (by omega) (by omega) (rss_ones _) rfl hl2 rfl rfl rfl ?_
    clear hl2
    (refine Qv (hK _ _ (Qq (Qw ?_))); clear hK K; refine Qx (fun K hK => ?_); refine Qz rfl rfl rfl ?_; refine Qz rfl rfl rfl ?_; refine Qz rfl rfl rfl ?_; refine Qz rfl rfl rfl ?_; refine Ql rfl rfl rfl (by with_reducible exact sRes) (by omega) (Yq (by omega) (by omega)) rfl ?_; refine Qs (n := 17) rfl rfl rfl (by with_reducible exact lRes) rfl rfl ?_)
    generalize l.getD i.toNat rs0 = c
    refine XY (out.length + 1) rfl rfl rfl (by rw [Xw, hlen3]) rfl (by with_reducible exact sRes) (by omega) (by omega) rfl ?_
    refine stE rsCs c Xs rfl rfl rfl rfl rfl (by rw [e4]; omega) (by with_reducible exact szRes) ?_
    rw [e4]
    (refine Qv (hK _ _ (Qq (Qw ?_))); clear hK K; refine Qx (fun K hK => ?_); refine Qz rfl rfl rfl ?_)
    have hlen4 : (l2.set k c).length = out.length + 1 := by rw [List.length_set]; exact hlen3
    generalize l2.set k c = l4 at hlen4
    refine Q9 goBool (YQ bs p2 8 (by decide) (by decide) hb) rfl rfl rfl rfl rfl (fun q _ => ?_)
    obtain ⟨b, p3⟩ := q
    dsimp only
    (refine Qv (hK _ _ (Qq ?_)); clear hK K)
    refine X5 rfl (fun _ => ?_) (fun _ => ?_)
    · (refine Qx (fun K hK => ?_); refine Qz rfl rfl rfl ?_; refine Qz rfl rfl rfl ?_; refine Qz rfl rfl rfl ?_; refine Ql rfl rfl rfl (by with_reducible exact sRes) (by omega) (Yq (by omega) (by omega)) rfl ?_; refine Qs (n := 17) rfl rfl rfl (by with_reducible exact lRes) rfl rfl ?_)
      generalize l.getD i.toNat rs0 = c2
      refine Xm (n := 17) rfl rfl (by with_reducible exact sRes) rfl rfl (by decide) rfl ?_
      refine Xk l4.length (rss (l4 ++ [c2])) rfl rfl rfl rfl (by with_reducible exact sRes) (Xw l4) rfl (by omega) (by omega) (rss_snoc l4 c2) rfl ?_
      (refine Qy rfl rfl rfl ?_; refine Qv (hK _ _ (Qq ?_)); clear hK K; refine Qx (fun K hK => ?_); refine Qz rfl rfl rfl ?_; refine Qk (iadd (by omega) (by omega)) rfl rfl rfl rfl ?_; refine Qy rfl rfl rfl ?_; refine Qv (hK _ _ (Qa ?_)); clear hK K)
      refine Qg (i + 1, l4 ++ [c2], p3) (by dsimp only; omega) ⟨by dsimp only; omega, by dsimp only; omega, by simp; omega⟩ (by exact QK rfl ⟨rfl, rfl, rfl, rfl, trivial⟩)
    · (refine Q5 (Qq (Qx fun K hK => ?_)); refine Qz rfl rfl rfl ?_; refine Qk (iadd (by omega) (by omega)) rfl rfl rfl rfl ?_; refine Qy rfl rfl rfl ?_; refine Qv (hK _ _ (Qa ?_)); clear hK K)
      refine Qg (i + 1, l4, p3) (by dsimp only; omega) ⟨by dsimp only; omega, by dsimp only; omega, by dsimp only; omega⟩ (by exact QK rfl ⟨rfl, rfl, rfl, rfl, trivial⟩)
  · refine St.frz 1 _ rfl (Zd _ _) (Z4 rfl) ?_
    (refine Qh (Qq (Qw (Qx fun K hK => ?_))); refine Qz rfl rfl rfl ?_; refine Qy rfl rfl rfl ?_; refine Qv (hK _ _ (Qq (Q0 ?_))); clear hK K)
    refine Xe (out, p1) [_] rfl (QJ rfl QX) rfl rfl (by dsimp only; omega)
theorem goOdd : InGo Tryz.prog 8 := InGo.of Tryz.func8 rfl (by decide)
set_option maxHeartbeats 16000000 in
theorem Odd_ok (bs : List Int) (p : Nat) (l : List Rs) (hl : l.length ≤ 100) (hb : Bytes bs) : OkB Tryz.prog 8 82 (codes bs p) [rssC l] (fun q : List Rs × Nat => q.1.length ≤ l.length + 1) (fun q => rssC q.1) (fun q => codes bs q.2) := by
  refine OkB.enter Tryz.func8 rfl _ Tryz.ntmps8 rfl ?_
  intro S w g
  (refine Qw (Qx fun K hK => ?_); refine Qy rfl rfl rfl ?_; refine Qv (hK _ _ (Qq (Qw ?_))); clear hK K; refine Qx (fun K hK => ?_); refine Qz rfl rfl rfl ?_)
  refine Zt 1 rfl rfl rfl (by with_reducible exact sRes) (rss_ones l) (by rw [List.length_map]; omega) (by rw [List.length_map]; omega) rfl rfl rfl ?_
  (refine Qy rfl rfl rfl ?_; refine Qv (hK _ _ (Qq (Qw (Qw ?_)))); clear hK K; refine Qx (fun K hK => ?_); refine Qz rfl rfl rfl ?_)
  refine Zk l.length rfl rfl rfl (by decide) (Xw l) (by with_reducible exact sRes.und) rfl ?_
  (refine Qk ieql rfl rfl rfl rfl ?_; refine Qv (hK _ _ (Qq ?_)); clear hK K)
  refine Q7 rfl (fun h0 => ?_) (fun h0 => ?_)
  · (refine Qw (Qx fun K hK => ?_); refine Qz rfl rfl rfl ?_; refine Qz rfl rfl rfl ?_)
    refine Q9 goCResult (CResult_ok bs p hb) rfl rfl rfl rfl rfl (fun q _ => ?_)
    obtain ⟨r, p1⟩ := q
    dsimp only
    refine Xm (n := 17) rfl rfl (by with_reducible exact sRes) rfl rfl (by decide) rfl ?_
    refine Xk l.length (rss (l ++ [r])) rfl rfl rfl rfl (by with_reducible exact sRes) (Xw l) rfl (by omega) (by omega) (rss_snoc l r) rfl ?_
    refine Qy rfl rfl rfl ?_
    refine Qv (hK _ _ ?_)
    clear hK K
    refine Qq ?_
    refine St.frz 1 _ rfl (Zd _ _) (Z4 rfl) ?_
    (refine Q0 (QV ?_))
    refine Xe (l ++ [r], p1) [_] rfl (QJ rfl QX) rfl rfl (by simp)
  (refine Q5 (Qq (Qw (Qx fun K hK => ?_))); refine Qz rfl rfl rfl ?_; refine Qz rfl rfl rfl ?_)
  refine Zk l.length rfl rfl rfl (by decide) (Xw l) (by with_reducible exact sRes.und) rfl ?_
  refine Q9 goNext (Xu bs p l.length (by omega) (by omega) hb) rfl rfl rfl rfl rfl (fun q hq => ?_)
  obtain ⟨i, p1⟩ := q
  dsimp only at hq ⊢
  (refine Qy rfl rfl rfl ?_; refine Qv (hK _ _ (Qq (Qw (Qw ?_)))); clear hK K; refine Qx (fun K hK => ?_); refine Qz rfl rfl rfl ?_)
  refine Q9 goNext (Xu bs p1 9 (by decide) (by decide) hb) rfl rfl rfl rfl rfl (fun q hq2 => ?_)
  obtain ⟨sw, p2⟩ := q
  dsimp only at hq2 ⊢
  refine Qv (hK _ _ ?_)
  clear hK K
  refine Qq ?_
  refine Ze (α := List Rs × Nat) (fun x => x.1.length = l.length) (fun _ => [(0, .own 0), (5, .own 1)]) (fun x => [(1, .row 77 17 (rss x.1)), (0, .box 82 (codes bs x.2))]) (fun x hx => ?_) (fun KK hN => ?_)
  rotate_left
  · (refine Q4 (Qw (Qx fun K hK => ?_)); refine Qk ieql rfl rfl rfl rfl ?_; refine Qy rfl rfl rfl ?_; refine Qv (hK _ _ (Qq ?_)); clear hK K)
    refine Q7 rfl (fun _ => ?_) (fun _ => ?_)
    · (refine Qx (fun K hK => ?_); refine Qz rfl rfl rfl ?_; refine Qz rfl rfl rfl ?_; refine Qz rfl rfl rfl ?_)
      refine Q9 goCResult (CResult_ok bs p2 hb) rfl rfl rfl rfl rfl (fun q _ => ?_)
      obtain ⟨r, p3⟩ := q
      dsimp only
      refine XY l.length rfl rfl rfl (Xw l) rfl (by with_reducible exact sRes) (by omega) (by omega) rfl ?_
      refine stE rsCs r Xs rfl rfl rfl rfl rfl (by omega) (by with_reducible exact szRes) ?_
      (refine Qv (hK _ _ (XJ ?_)); clear hK K)
      exact Xj hN (l.set i.toNat r, p3) (List.length_set ..) (by exact QK rfl ⟨rfl, rfl, trivial⟩)
    (refine Qw (Qx fun K hK => ?_); refine Qk ieql rfl rfl rfl rfl ?_; refine Qy rfl rfl rfl ?_; refine Qv (hK _ _ (Qq ?_)); clear hK K)
    refine Q7 rfl (fun _ => ?_) (fun _ => ?_)
    · (refine Qx (fun K hK => ?_); refine Qz rfl rfl rfl ?_; refine Qz rfl rfl rfl ?_; refine Qz rfl rfl rfl ?_)
      refine Q9 goAddress (dAddr_ok bs p2 hb) rfl rfl rfl rfl rfl (fun q _ => ?_)
      obtain ⟨a, p3⟩ := q
      dsimp only
      refine XY l.length rfl rfl rfl (Xw l) rfl (by with_reducible exact sRes) (by omega) (by omega) rfl ?_
      refine XV rfl rfl (by with_reducible exact fS11) rfl ?_
      refine XV rfl rfl (by with_reducible exact fN0) rfl ?_
      refine stE1 (j := i.toNat) (o := 11) (n := 17) rsCs rs0 {l.getD i.toNat rs0 with fr := a} Xs rfl rfl rfl rfl rfl (by omega) (by decide) rfl (by with_reducible exact Zy) ?_
      (refine Qv (hK _ _ (XJ ?_)); clear hK K)
      exact Xj hN (l.set i.toNat {l.getD i.toNat rs0 with fr := a}, p3) (List.length_set ..) (by exact QK rfl ⟨rfl, rfl, trivial⟩)
    (refine Qw (Qx fun K hK => ?_); refine Qk ieql rfl rfl rfl rfl ?_; refine Qy rfl rfl rfl ?_; refine Qv (hK _ _ (Qq ?_)); clear hK K)
    refine Q7 rfl (fun _ => ?_) (fun _ => ?_)
    · (refine Qx (fun K hK => ?_); refine Qz rfl rfl rfl ?_; refine Qz rfl rfl rfl ?_; refine Qz rfl rfl rfl ?_; refine Qz rfl rfl rfl ?_)
      refine XY l.length rfl rfl rfl (Xw l) rfl (by with_reducible exact sRes) (by omega) (by omega) rfl ?_
      refine XV rfl rfl (by with_reducible exact fS8) rfl ?_
      refine QQ (c := boolC (l.getD i.toNat rs0).an) rfl rfl rfl rfl (rss_cell 8 (j := i.toNat) (by omega) (by decide)) (by with_reducible exact Qi) rfl ?_
      (refine Qb rfl rfl rfl ?_)
      refine XY l.length rfl rfl rfl (Xw l) rfl (by with_reducible exact sRes) (by omega) (by omega) rfl ?_
      refine XV rfl rfl (by with_reducible exact fS8) rfl ?_
      refine stE1 (j := i.toNat) (o := 8) (n := 17) rsCs rs0 {l.getD i.toNat rs0 with an := !(l.getD i.toNat rs0).an} Xs rfl rfl rfl rfl rfl (by omega) (by decide) rfl (by with_reducible exact ZW) ?_
      (refine Qv (hK _ _ (XJ ?_)); clear hK K)
      exact Xj hN (l.set i.toNat {l.getD i.toNat rs0 with an := !(l.getD i.toNat rs0).an}, p2) (List.length_set ..) (by exact QK rfl ⟨rfl, rfl, trivial⟩)
    (refine Qw (Qx fun K hK => ?_); refine Qk ieql rfl rfl rfl rfl ?_; refine Qy rfl rfl rfl ?_; refine Qv (hK _ _ (Qq ?_)); clear hK K)
    refine Q7 rfl (fun _ => ?_) (fun _ => ?_)
    · (refine Qx (fun K hK => ?_); refine Qz rfl rfl rfl ?_; refine Qz rfl rfl rfl ?_; refine Qz rfl rfl rfl ?_)
      refine Ops.litI [0, 1, 2, 255, 256] rfl rfl (by with_reducible exact sInts) rfl ⟨rfl, rfl, rfl, rfl, rfl, rfl, rfl, rfl, rfl, rfl, trivial⟩ (by decide) rfl ?_
      refine Q9 goPick (Pick_ok bs p2 [0, 1, 2, 255, 256] (by decide) (by decide) hb) rfl rfl rfl rfl rfl (fun q _ => ?_)
      obtain ⟨k, p3⟩ := q
      dsimp only
      refine XY l.length rfl rfl rfl (Xw l) rfl (by with_reducible exact sRes) (by omega) (by omega) rfl ?_
      refine XV rfl rfl (by with_reducible exact fS7) rfl ?_
      refine stE1 (j := i.toNat) (o := 7) (n := 17) rsCs rs0 {l.getD i.toNat rs0 with tt := k} Xs rfl rfl rfl rfl rfl (by omega) (by decide) rfl (by with_reducible exact zInt) ?_
      (refine Qv (hK _ _ (XJ ?_)); clear hK K)
      exact Xj hN (l.set i.toNat {l.getD i.toNat rs0 with tt := k}, p3) (List.length_set ..) (by exact QK rfl ⟨rfl, rfl, trivial⟩)
    (refine Qw (Qx fun K hK => ?_); refine Qk ieql rfl rfl rfl rfl ?_; refine Qy rfl rfl rfl ?_; refine Qv (hK _ _ (Qq ?_)); clear hK K)
    refine Q7 rfl (fun _ => ?_) (fun _ => ?_)
    · skip
      refine St.drawR (by with_reducible exact mixed) 18 (.p 0 (.p 1 (.p 2 (.p 3 (.p 4 (.p 5 (.p 6 (.p 8 (.p 9 (.p 10 (.p 11 (.f 7 (.f 12 (.p 13 (.m 14 (.m 15 (.p 16 (.p 17 (.a 18 .done))))))))))))))))))) (by kernel_rfl) (fun K hK => ?_)
      refine Xv ?_
      (refine Qz rfl rfl rfl ?_)
      refine Qv ?_
      refine Xv ?_
      (refine Qz rfl rfl rfl ?_)
      refine Qv ?_
      refine Xv ?_
      (refine Qz rfl rfl rfl ?_)
      refine Qv ?_
      refine Xv ?_
      (refine Qz rfl rfl rfl ?_)
      refine Qv ?_
      refine Xv ?_
      (refine Qz rfl rfl rfl ?_)
      refine Qv ?_
      refine Xv ?_
      refine XY l.length rfl rfl rfl (Xw l) rfl (by with_reducible exact sRes) (by omega) (by omega) rfl ?_
      refine Qv ?_
      refine Xv ?_
      refine XV rfl rfl (by with_reducible exact fS3) rfl ?_
      refine Qv ?_
      refine Xv ?_
      (refine Qz rfl rfl rfl ?_)
      refine Qv ?_
      refine Xv ?_
      (refine Qz rfl rfl rfl ?_)
      refine Qv ?_
      refine Xv ?_
      refine XY l.length rfl rfl rfl (Xw l) rfl (by with_reducible exact sRes) (by omega) (by omega) rfl ?_
      refine Qv ?_
      refine Xv ?_
      refine XV rfl rfl (by with_reducible exact fS3) rfl ?_
      refine Qv ?_
      refine Zr (c := intC (l.getD i.toNat rs0).tm) rfl rfl rfl rfl (rss_cell 3 (j := i.toNat) (by omega) (by decide)) (by with_reducible exact lInt) (Xr rfl) rfl ?_
      refine Zr (c := intC (l.getD i.toNat rs0).tm) rfl rfl rfl rfl (rss_cell 3 (j := i.toNat) (by omega) (by decide)) (by with_reducible exact lInt) (Xr rfl) rfl ?_
      refine Xv ?_
      refine Qk (subW _ _) rfl rfl rfl rfl ?_
      refine Qv ?_
      refine Fin.rm ?_
      refine Ops.litI [(l.getD i.toNat rs0).tm, IntKind.i64.wrap ((l.getD i.toNat rs0).tm - 1), 2251799813685248, 2251799813685249] rfl rfl (by with_reducible exact sInts) rfl ⟨rfl, rfl, rfl, rfl, rfl, rfl, rfl, rfl, trivial⟩ (by decide) rfl ?_
      refine Qv ?_
      refine Xh rfl goPick (Pick_ok bs p2 [(l.getD i.toNat rs0).tm, IntKind.i64.wrap ((l.getD i.toNat rs0).tm - 1), 2251799813685248, 2251799813685249] (by simp) (by simp) hb) rfl rfl rfl rfl rfl (fun y _ => ?_)
      obtain ⟨k, p3⟩ := y
      dsimp only
      refine Xv ?_
      refine XY l.length rfl rfl rfl (Xw l) rfl (by with_reducible exact sRes) (by omega) (by omega) rfl ?_
      refine Qv ?_
      refine Xv ?_
      refine XV rfl rfl (by with_reducible exact fS10) rfl ?_
      refine Qv ?_
      refine Fin.ra ?_
      refine stE1 (j := i.toNat) (o := 10) (n := 17) rsCs rs0 {l.getD i.toNat rs0 with bk := k} Xs rfl rfl rfl rfl rfl (by omega) (by decide) rfl (by with_reducible exact zInt) ?_
      refine Qv ?_
      refine Z0 ?_
      refine hK _ _ ?_
      clear hK K
      (refine XJ ?_)
      exact Xj hN (l.set i.toNat {l.getD i.toNat rs0 with bk := k}, p3) (List.length_set ..) (by exact QK rfl ⟨rfl, rfl, trivial⟩)
    (refine Qw (Qx fun K hK => ?_); refine Qk ieql rfl rfl rfl rfl ?_; refine Qy rfl rfl rfl ?_; refine Qv (hK _ _ (Qq ?_)); clear hK K)
    refine Q7 rfl (fun _ => ?_) (fun _ => ?_)
    · (refine Qx (fun K hK => ?_); refine Qz rfl rfl rfl ?_; refine Qz rfl rfl rfl ?_; refine Qz rfl rfl rfl ?_; refine Qz rfl rfl rfl ?_; refine Qz rfl rfl rfl ?_)
      refine Zk l.length rfl rfl rfl (by decide) (Xw l) (by with_reducible exact sRes.und) rfl ?_
      refine Q9 goNext (Xu bs p2 l.length (by omega) (by omega) hb) rfl rfl rfl rfl rfl (fun q hq3 => ?_)
      obtain ⟨j, p3⟩ := q
      dsimp only at hq3 ⊢
      refine XY l.length rfl rfl rfl (Xw l) rfl (by with_reducible exact sRes) (by omega) (by omega) rfl ?_
      refine XV rfl rfl (by with_reducible exact fS2) rfl ?_
      refine QQ (c := intC (l.getD j.toNat rs0).nu) rfl rfl rfl rfl (rss_cell 2 (j := j.toNat) (by omega) (by decide)) (by with_reducible exact lInt) rfl ?_
      refine XY l.length rfl rfl rfl (Xw l) rfl (by with_reducible exact sRes) (by omega) (by omega) rfl ?_
      refine XV rfl rfl (by with_reducible exact fS2) rfl ?_
      refine stE1 (j := i.toNat) (o := 2) (n := 17) rsCs rs0 {l.getD i.toNat rs0 with nu := (l.getD j.toNat rs0).nu} Xs rfl rfl rfl rfl rfl (by omega) (by decide) rfl (by with_reducible exact zInt) ?_
      (refine Qv (hK _ _ (XJ ?_)); clear hK K)
      exact Xj hN (l.set i.toNat {l.getD i.toNat rs0 with nu := (l.getD j.toNat rs0).nu}, p3) (List.length_set ..) (by exact QK rfl ⟨rfl, rfl, trivial⟩)
    (refine Qw (Qx fun K hK => ?_); refine Qk ieql rfl rfl rfl rfl ?_; refine Qy rfl rfl rfl ?_; refine Qv (hK _ _ (Qq ?_)); clear hK K)
    refine Q7 rfl (fun _ => ?_) (fun _ => ?_)
    · (refine Qx (fun K hK => ?_); refine Qz rfl rfl rfl ?_; refine Qz rfl rfl rfl ?_; refine Qz rfl rfl rfl ?_)
      refine Q9 goNext (Xu bs p2 2 (by decide) (by decide) hb) rfl rfl rfl rfl rfl (fun q hq3 => ?_)
      obtain ⟨a, p3⟩ := q
      dsimp only at hq3 ⊢
      refine Zj rfl rfl (by with_reducible exact uInt) (by with_reducible exact uAddr) (wrap_toFin (n := a) (by omega) (by omega)) rfl ?_
      generalize (⟨a.toNat, _⟩ : Fin 4294967296) = ad
      refine XY l.length rfl rfl rfl (Xw l) rfl (by with_reducible exact sRes) (by omega) (by omega) rfl ?_
      refine XV rfl rfl (by with_reducible exact fS4) rfl ?_
      refine stE1 (j := i.toNat) (o := 4) (n := 17) rsCs rs0 {l.getD i.toNat rs0 with dst := ad} Xs rfl rfl rfl rfl rfl (by omega) (by decide) rfl (by with_reducible exact Zy) ?_
      (refine Qv (hK _ _ (XJ ?_)); clear hK K)
      exact Xj hN (l.set i.toNat {l.getD i.toNat rs0 with dst := ad}, p3) (List.length_set ..) (by exact QK rfl ⟨rfl, rfl, trivial⟩)
    (refine Qw (Qx fun K hK => ?_); refine Qk ieql rfl rfl rfl rfl ?_; refine Qy rfl rfl rfl ?_; refine Qv (hK _ _ (Qq ?_)); clear hK K)
    refine Q7 rfl (fun _ => ?_) (fun _ => ?_)
    · (refine Qx (fun K hK => ?_); refine Qz rfl rfl rfl ?_; refine Qz rfl rfl rfl ?_; refine Qz rfl rfl rfl ?_; refine Qz rfl rfl rfl ?_)
      refine XY l.length rfl rfl rfl (Xw l) rfl (by with_reducible exact sRes) (by omega) (by omega) rfl ?_
      refine XV rfl rfl (by with_reducible exact fS9) rfl ?_
      refine QQ (c := boolC (l.getD i.toNat rs0).db) rfl rfl rfl rfl (rss_cell 9 (j := i.toNat) (by omega) (by decide)) (by with_reducible exact Qi) rfl ?_
      (refine Qb rfl rfl rfl ?_)
      refine XY l.length rfl rfl rfl (Xw l) rfl (by with_reducible exact sRes) (by omega) (by omega) rfl ?_
      refine XV rfl rfl (by with_reducible exact fS9) rfl ?_
      refine stE1 (j := i.toNat) (o := 9) (n := 17) rsCs rs0 {l.getD i.toNat rs0 with db := !(l.getD i.toNat rs0).db} Xs rfl rfl rfl rfl rfl (by omega) (by decide) rfl (by with_reducible exact ZW) ?_
      (refine Qv (hK _ _ (XJ ?_)); clear hK K)
      exact Xj hN (l.set i.toNat {l.getD i.toNat rs0 with db := !(l.getD i.toNat rs0).db}, p2) (List.length_set ..) (by exact QK rfl ⟨rfl, rfl, trivial⟩)
    (refine Qw (Qx fun K hK => ?_); refine Qk ieql rfl rfl rfl rfl ?_; refine Qy rfl rfl rfl ?_; refine Qv (hK _ _ (Qq ?_)); clear hK K)
    refine Q7 rfl (fun _ => ?_) (fun _ => ?_)
    · (refine Qx (fun K hK => ?_); refine Qz rfl rfl rfl ?_; refine Qz rfl rfl rfl ?_; refine Qz rfl rfl rfl ?_)
      refine Q9 goNext (Xu bs p2 7 (by decide) (by decide) hb) rfl rfl rfl rfl rfl (fun q _ => ?_)
      obtain ⟨k, p3⟩ := q
      dsimp only
      refine XY l.length rfl rfl rfl (Xw l) rfl (by with_reducible exact sRes) (by omega) (by omega) rfl ?_
      refine XV rfl rfl (by with_reducible exact fS11) rfl ?_
      refine XV rfl rfl (by with_reducible exact fN1) rfl ?_
      refine stE1 (j := i.toNat) (o := 12) (n := 17) rsCs rs0 {l.getD i.toNat rs0 with ki := k} Xs rfl rfl rfl rfl rfl (by omega) (by decide) rfl (by with_reducible exact zInt) ?_
      (refine Qv (hK _ _ (XJ ?_)); clear hK K)
      exact Xj hN (l.set i.toNat {l.getD i.toNat rs0 with ki := k}, p3) (List.length_set ..) (by exact QK rfl ⟨rfl, rfl, trivial⟩)
    (refine Q5 (XJ ?_))
    exact Xj hN (l, p2) rfl (by exact QK rfl ⟨rfl, rfl, trivial⟩)
  obtain ⟨l2, p3⟩ := x
  dsimp only at hx ⊢
  refine St.frz 1 _ rfl (Zd _ _) (Z4 rfl) ?_
  (refine Qw (Qx fun K hK => ?_); refine Qz rfl rfl rfl ?_; refine Qy rfl rfl rfl ?_; refine Qv (hK _ _ (Qq (Q0 ?_))); clear hK K)
  refine Xe (l2, p3) [_] rfl (QJ rfl QX) rfl rfl (by dsimp only; omega)
theorem goResults : InGo Tryz.prog 6 := InGo.of Tryz.func6 rfl (by decide)
set_option maxHeartbeats 16000000 in
theorem Results_ok (bs : List Int) (p : Nat) (most : Int) (st : Bool) (h0 : 0 ≤ most) (h1 : most ≤ 100) (hb : Bytes bs) : OkB Tryz.prog 6 82 (codes bs p) [intC most, boolC st] (fun q : List Rs × Nat => (q.1.length : Int) ≤ most) (fun q => rssC q.1) (fun q => codes bs q.2) := by
  refine OkB.enter Tryz.func6 rfl _ Tryz.ntmps6 rfl ?_
  intro S w g
  (refine Qw (Qx fun K hK => ?_); refine Qy rfl rfl rfl ?_; refine Qv (hK _ _ (Qq (Qw ?_))); clear hK K; refine Qx (fun K hK => ?_); refine Qz rfl rfl rfl ?_)
  refine Q9 goScene (scene_ok bs p hb) rfl rfl rfl rfl rfl (fun q hq => ?_)
  obtain ⟨n1, p1⟩ := q
  dsimp only at hq ⊢
  skip
  refine Ops.litE 1 (m := 1) (n := 5) (zv := zNet) (cs := nts [n1]) rfl rfl (by with_reducible exact sNets) (.agg (n := 5) rfl rfl rfl rfl .nil) (by decide) rfl rfl rfl ?_
  (refine Qy rfl rfl rfl ?_; refine Qv (hK _ _ (Qq (Qw (Qw ?_)))); clear hK K; refine Qx (fun K hK => ?_); refine Qz rfl rfl rfl ?_)
  refine Q9 goBool (YQ bs p1 3 (by decide) (by decide) hb) rfl rfl rfl rfl rfl (fun q _ => ?_)
  obtain ⟨b1, p2⟩ := q
  dsimp only
  (refine Qv (hK _ _ (Qq ?_)); clear hK K)
  refine Ze (α := List Nt × Nat) (fun x => 1 ≤ x.1.length ∧ x.1.length ≤ 2 ∧ ∀ q ∈ x.1, NtIn q) (fun _ => [(0, .own 0), (1, .ct (intC most)), (2, .ct (boolC st)), (7, .own 1)]) (fun x => [(1, .row 68 5 (nts x.1)), (0, .box 82 (codes bs x.2))]) (fun x hx => ?_) (fun KK hN => ?_)
  rotate_left
  · refine X5 rfl (fun _ => ?_) (fun _ => ?_)
    · (refine Qx (fun K hK => ?_); refine Qz rfl rfl rfl ?_; refine Qz rfl rfl rfl ?_)
      refine Q9 goScene (scene_ok bs p2 hb) rfl rfl rfl rfl rfl (fun q hq2 => ?_)
      obtain ⟨n2, p3⟩ := q
      dsimp only at hq2 ⊢
      refine Xm (n := 5) rfl rfl (by with_reducible exact sNets) rfl rfl (by decide) rfl ?_
      refine Xk 1 (nts [n1, n2]) rfl rfl rfl rfl (by with_reducible exact sNets) rfl rfl (by decide) (by decide) rfl rfl ?_
      (refine Qy rfl rfl rfl ?_; refine Qv (hK _ _ ?_); clear hK K)
      exact Xj hN ([n1, n2], p3) ⟨by simp, by simp, by simp [hq, hq2]⟩ (by exact QK rfl ⟨rfl, rfl, rfl, rfl, trivial⟩)
    · (refine Q5 ?_)
      exact Xj hN ([n1], p2) ⟨by simp, by simp, by simp [hq]⟩ (by exact QK rfl ⟨rfl, rfl, rfl, rfl, trivial⟩)
  clear hq
  obtain ⟨ns0, p3⟩ := x
  obtain ⟨hn1, hn2, hnt⟩ := hx
  dsimp only at hn1 hn2 hnt ⊢
  (refine Qw (Qx fun K hK => ?_); refine Qy rfl rfl rfl ?_; refine Qv (hK _ _ (Qq (Qw ?_))); clear hK K; refine Qx (fun K hK => ?_); refine Qz rfl rfl rfl ?_)
  refine Ops.nilRow 8 2 77 17 rfl rfl rfl ?_
  skip
  refine Q9 goNext (Xu bs p3 50 (by decide) (by decide) hb) rfl rfl rfl rfl rfl (fun q hq => ?_)
  obtain ⟨at0, p4⟩ := q
  dsimp only at hq ⊢
  (refine Qz rfl rfl rfl ?_)
  refine Q9 goNext (Xu bs p4 700 (by decide) (by decide) hb) rfl rfl rfl rfl rfl (fun q hq2 => ?_)
  obtain ⟨id0, p5⟩ := q
  dsimp only at hq2 ⊢
  (refine Qk (imul (by omega) (by omega)) rfl rfl rfl rfl ?_; refine Qy rfl rfl rfl ?_; refine Qy rfl rfl rfl ?_; refine Qv (hK _ _ (Qq (Qw ?_))); clear hK K; refine Qx (fun K hK => ?_))
  refine Qo 3 rfl rfl (by with_reducible exact zvNums) rfl rfl rfl ?_
  (refine Qv (hK _ _ (Qq (Qw (Qw ?_)))); clear hK K; refine Qx (fun K hK => ?_); refine Qz rfl rfl rfl ?_; refine Qz rfl rfl rfl ?_; refine Qk (iadd (by omega) (by omega)) rfl rfl rfl rfl ?_)
  refine Q9 goNext (Xu bs p5 (most + 1) (by omega) (by omega) hb) rfl rfl rfl rfl rfl (fun q hq3 => ?_)
  obtain ⟨k0, p6⟩ := q
  dsimp only at hq3 ⊢
  (refine Qy rfl rfl rfl ?_; refine Qv (hK _ _ (Qq (Q4 ?_))); clear hK K)
  refine Qt (α := RSt) (ROk most)
    (fun x => [(0, .own 0), (1, .ct (intC most)), (2, .ct (boolC st)), (7, .own 1), (8, .own 2), (9, .ct (intC x.tm)), (10, .ct (intC x.id)), (11, .own 3), (12, .ct (intC x.k))])
    (fun x => [(3, .box 72 (ints x.nu)), (2, .row 77 17 (rss x.out)), (1, .row 68 5 (nts x.ns)), (0, .box 82 (codes bs x.p))])
    (fun x => x.k.toNat) ⟨k0, ns0, at0, 100 * id0, List.replicate 16 0, [], p6⟩ ⟨hq3.1, by simp; omega, hn1, hn2, hnt, hq.1, by dsimp only; omega, by dsimp only; omega, by dsimp only; omega, rfl⟩ (by exact QK rfl ⟨rfl, rfl, rfl, rfl, rfl, rfl, rfl, rfl, rfl, trivial⟩) ?_
  rintro ⟨k, ns, tm, id, nu, out, q0⟩ ⟨hk0, hkl, hn1, hn2, hnt, ht0, ht1, hi0, hi1, hnl⟩
  dsimp only at hk0 hkl hn1 hn2 hnt ht0 ht1 hi0 hi1 hnl ⊢
  (refine Qw (Qw (Qx fun K hK => ?_)); refine Qz rfl rfl rfl ?_; refine Qk igtr rfl rfl rfl rfl ?_; refine Qv (hK _ _ (Qq ?_)); clear hK K)
  refine Q7 rfl (fun hk => ?_) (fun hk => ?_)
  · (refine Q5 (Qq (Qw (Q4 (Qw (Qx fun K hK => ?_))))); refine Qz rfl rfl rfl ?_; refine Qz rfl rfl rfl ?_; refine Zk _ rfl rfl rfl (by decide) (nts_len _) (by with_reducible exact sNets.und) rfl ?_)
    refine Q9 goNext (Xu bs q0 ns.length (by omega) (by omega) hb) rfl rfl rfl rfl rfl (fun q hq4 => ?_)
    obtain ⟨i, q1⟩ := q
    dsimp only at hq4 ⊢
    refine Qy rfl rfl rfl ?_
    refine Qv (hK _ _ ?_)
    clear hK K
    refine Qq ?_
    refine Qw ?_
    refine Ze (α := List Nt × Nat) (fun x => x.1.length = ns.length ∧ ∀ q ∈ x.1, NtIn q)
      (fun x => [(0, .own 0), (1, .ct (intC most)), (2, .ct (boolC st)), (7, .own 1), (8, .own 2), (9, .ct (intC tm)), (10, .ct (intC id)), (11, .own 3), (12, .ct (intC k)), (13, .ct (intC i))])
      (fun x => [(3, .box 72 (ints nu)), (2, .row 77 17 (rss out)), (1, .row 68 5 (nts x.1)), (0, .box 82 (codes bs x.2))]) (fun x hx => ?_) (fun KK hN => ?_)
    rotate_left
    · have hu : Tryz.prog.underlying 68 = _ := Tryz.underlying68
      (refine Qw (Qx fun K hK => ?_); refine Qz rfl rfl rfl ?_; refine Qb rfl rfl rfl ?_; refine Qz rfl rfl rfl ?_)
      refine Ops.split 48 (b := !st) rfl (fun hs => ?_) (fun hs => ?_)
      · (refine Qz rfl rfl rfl ?_)
        refine Q9 goBool (YQ bs q1 12 (by decide) (by decide) hb) rfl rfl rfl rfl rfl (fun q _ => ?_)
        obtain ⟨b2, q2⟩ := q
        dsimp only
        (refine QZ rfl rfl rfl rfl ?_; refine Qv (hK _ _ (Qq ?_)); clear hK K)
        refine X5 rfl (fun _ => ?_) (fun _ => ?_)
        · (refine Qx (fun K hK => ?_); refine Qz rfl rfl rfl ?_; refine Qz rfl rfl rfl ?_; refine Qz rfl rfl rfl ?_)
          refine Q9 goScene (scene_ok bs q2 hb) rfl rfl rfl rfl rfl (fun q hq5 => ?_)
          obtain ⟨n2, q3⟩ := q
          dsimp only at hq5 ⊢
          refine Ops.fldV (off := 3) (cs := ntCs n2) (c := pthsC n2.ps) rfl rfl hu rfl rfl Tryz.underlying25 rfl rfl rfl ?_
          refine XY ns.length rfl rfl rfl (nts_len ns) rfl (by with_reducible exact sNets) (by omega) (by omega) rfl ?_
          refine XV rfl rfl (by with_reducible exact fH1) rfl ?_
          refine stE1 (j := i.toNat) (o := 3) (n := 5) ntCs nt0 ⟨(ns.getD i.toNat nt0).va, (ns.getD i.toNat nt0).ds, (ns.getD i.toNat nt0).pr, n2.ps, (ns.getD i.toNat nt0).la⟩ nt_len rfl rfl rfl rfl rfl (by omega) (by decide) rfl (by with_reducible exact Zp) ?_
          (refine Qv (hK _ _ ?_); clear hK K)
          have hi9 : NtIn (ns.getD i.toNat nt0) := nets_get hnt (by omega)
          exact Xj hN (ns.set i.toNat ⟨(ns.getD i.toNat nt0).va, (ns.getD i.toNat nt0).ds, (ns.getD i.toNat nt0).pr, n2.ps, (ns.getD i.toNat nt0).la⟩, q3) ⟨by simp, by refine mem_setG hnt ?_ _; exact ⟨hi9.v0, hi9.v1, hq5.l0, hq5.l1, hq5.pl⟩⟩ (by exact QK rfl ⟨rfl, rfl, rfl, rfl, rfl, rfl, rfl, rfl, rfl, rfl, trivial⟩)
        · (refine Q5 ?_)
          exact Xj hN (ns, q2) ⟨rfl, hnt⟩ (by exact QK rfl ⟨rfl, rfl, rfl, rfl, rfl, rfl, rfl, rfl, rfl, rfl, trivial⟩)
      · (refine Qj rfl rfl rfl ?_; refine Qj rfl rfl rfl ?_; refine Q2 rfl rfl rfl rfl ?_; refine Qv (hK _ _ (Qq (Qe rfl (Q5 ?_)))); clear hK K)
        exact Xj hN (ns, q1) ⟨rfl, hnt⟩ (by exact QK rfl ⟨rfl, rfl, rfl, rfl, rfl, rfl, rfl, rfl, rfl, rfl, trivial⟩)
    obtain ⟨ns', q2⟩ := x
    obtain ⟨hnl', hnt'⟩ := hx
    dsimp only at hnl' hnt' ⊢
    (refine Qw (Qx fun K hK => ?_); refine Qz rfl rfl rfl ?_; refine Qz rfl rfl rfl ?_)
    refine XY ns'.length rfl rfl rfl (nts_len ns') rfl (by with_reducible exact sNets) (by omega) (by omega) rfl ?_
    refine ldE ntCs nt0 nt_len rfl rfl rfl rfl rfl (by omega) (by with_reducible exact lNet) rfl ?_
    have hn9 : NtIn (ns'.getD i.toNat nt0) := nets_get hnt' (by omega)
    generalize ns'.getD i.toNat nt0 = n9 at hn9
    obtain ⟨va, ds, pr, ps, la⟩ := n9
    obtain ⟨v0, v1, l0, l1, pl⟩ := hn9
    dsimp only at v0 v1 l0 l1 pl ⊢
    (refine Qo 4 rfl rfl (by with_reducible exact zvNet) rfl rfl rfl ?_; refine Qr 5 rfl rfl rfl rfl rfl (by with_reducible exact szNet) rfl rfl ?_; refine Qv (hK _ _ (Qq (Qw ?_))); clear hK K; refine Qx (fun K hK => ?_); refine Qz rfl rfl rfl ?_; refine Qu rfl rfl rfl (by with_reducible first | exact fH0 | exact fH1 | exact fH2 | exact fS0 | exact fS1 | exact fS2 | exact fS3 | exact fS4 | exact fS5 | exact fS6 | exact fS7 | exact fS8 | exact fS9 | exact fS10 | exact fS11) rfl ?_; refine QQ rfl rfl rfl rfl rfl (by with_reducible first | exact lInt | exact QU | exact lAdrs | exact lPths | exact Qi) rfl ?_; refine Qd rfl rfl (by with_reducible first | exact sAdrs.und | exact sPths.und | exact sRes.und) (List.length_map ..) rfl ?_)
    refine Q9 goNext (Xu bs q2 ps.length (by omega) (by omega) hb) rfl rfl rfl rfl rfl (fun q hq5 => ?_)
    obtain ⟨f, q3⟩ := q
    dsimp only at hq5 ⊢
    (refine Qy rfl rfl rfl ?_; refine Qv (hK _ _ (Qq (Qw ?_))); clear hK K; refine Qx (fun K hK => ?_); refine Qu rfl rfl rfl (by with_reducible first | exact fH0 | exact fH1 | exact fH2 | exact fS0 | exact fS1 | exact fS2 | exact fS3 | exact fS4 | exact fS5 | exact fS6 | exact fS7 | exact fS8 | exact fS9 | exact fS10 | exact fS11) rfl ?_; refine QQ rfl rfl rfl rfl rfl (by with_reducible first | exact lInt | exact QU | exact lAdrs | exact lPths | exact Qi) rfl ?_; refine Qz rfl rfl rfl ?_)
    refine Ql rfl rfl rfl (by with_reducible exact sPths) (by omega) (pths_at (ps := ps) (j := f) (by omega) (by omega)) rfl ?_
    refine Zv rfl rfl rfl (by with_reducible exact lAdrs) rfl ?_
    have hp9 : 1 ≤ (ps.getD f.toNat []).length ∧ (ps.getD f.toNat []).length ≤ 3 := mem_getG pl (by omega)
    generalize ps.getD f.toNat [] = pp at hp9
    (refine Qy rfl rfl rfl ?_; refine Qv (hK _ _ (Qq (Qw ?_))); clear hK K; refine Qx (fun K hK => ?_); refine Qz rfl rfl rfl ?_; refine Qz rfl rfl rfl ?_)
    refine Q9 goNext (Xu bs q3 40 (by decide) (by decide) hb) rfl rfl rfl rfl rfl (fun q hq6 => ?_)
    obtain ⟨dt, q4⟩ := q
    dsimp only at hq6 ⊢
    (refine Qk (iadd (by omega) (by omega)) rfl rfl rfl rfl ?_; refine Qk (iadd (by omega) (by omega)) rfl rfl rfl rfl ?_; refine Qy rfl rfl rfl ?_; refine Qv (hK _ _ (Qq (Qw ?_))); clear hK K)
    refine Ze (α := Int × Nat) (fun x => 0 ≤ x.1 ∧ x.1 ≤ pp.length) (fun _ => [(0, .own 0), (1, .ct (intC most)), (2, .ct (boolC st)), (7, .own 1), (8, .own 2), (9, .ct (intC (tm + (1 + dt)))), (10, .ct (intC id)), (11, .own 3), (12, .ct (intC k)), (14, .own 4), (16, .ct (adrsC pp)), (17, .own 5)])
      (fun x => [(5, .box 77 [intC va, intC 0, intC (nu.getD va.toNat 0), intC (tm + (1 + dt)), adrF ds, intC pr, intC f, intC (1 + x.1), boolC false, boolC false, intC 0, adrF 0, intC 0, intC 0, intC 0, intC 0, intC 0]), (4, .box 68 [intC va, adrF ds, intC pr, pthsC ps, adrF la]), (3, .box 72 (ints nu)), (2, .row 77 17 (rss out)), (1, .row 68 5 (nts ns')), (0, .box 82 (codes bs x.2))]) (fun x hx => ?_) (fun KK hN => ?_)
    rotate_left
    · refine St.drawR (by with_reducible exact mixed) 24 (.p 0 (.p 1 (.p 3 (.p 4 (.p 8 (.p 9 (.p 10 (.p 12 (.p 13 (.p 15 (.p 16 (.p 17 (.p 18 (.p 19 (.f 2 (.f 5 (.p 6 (.f 7 (.f 11 (.f 14 (.fork 20 (.p 21 (.p 22 (.m 23 (.a 24 .done)))) 23 (.m 20 (.p 21 (.p 22 (.a 24 .done))))))))))))))))))))))))) (by kernel_rfl) (fun K hK => ?_)
      refine Xv ?_
      (refine Qu rfl rfl rfl (by with_reducible first | exact fH0 | exact fH1 | exact fH2 | exact fS0 | exact fS1 | exact fS2 | exact fS3 | exact fS4 | exact fS5 | exact fS6 | exact fS7 | exact fS8 | exact fS9 | exact fS10 | exact fS11) rfl ?_)
      refine Qv ?_
      refine Xv ?_
      (refine XV rfl rfl (by with_reducible first | exact fR0t | exact fR1t | exact fR2t | exact fN0 | exact fN1 | exact fN4) rfl ?_)
      refine Qv ?_
      refine Xv ?_
      (refine Qu rfl rfl rfl (by with_reducible first | exact fH0 | exact fH1 | exact fH2 | exact fS0 | exact fS1 | exact fS2 | exact fS3 | exact fS4 | exact fS5 | exact fS6 | exact fS7 | exact fS8 | exact fS9 | exact fS10 | exact fS11) rfl ?_)
      refine Qv ?_
      refine Xv ?_
      (refine XV rfl rfl (by with_reducible first | exact fR0t | exact fR1t | exact fR2t | exact fN0 | exact fN1 | exact fN4) rfl ?_)
      refine Qv ?_
      refine Xv ?_
      (refine Qz rfl rfl rfl ?_)
      refine Qv ?_
      refine Xv ?_
      (refine Qu rfl rfl rfl (by with_reducible first | exact fH0 | exact fH1 | exact fH2 | exact fS0 | exact fS1 | exact fS2 | exact fS3 | exact fS4 | exact fS5 | exact fS6 | exact fS7 | exact fS8 | exact fS9 | exact fS10 | exact fS11) rfl ?_)
      refine Qv ?_
      refine Xv ?_
      (refine XV rfl rfl (by with_reducible first | exact fR0t | exact fR1t | exact fR2t | exact fN0 | exact fN1 | exact fN4) rfl ?_)
      refine Qv ?_
      refine Xv ?_
      (refine Qu rfl rfl rfl (by with_reducible first | exact fH0 | exact fH1 | exact fH2 | exact fS0 | exact fS1 | exact fS2 | exact fS3 | exact fS4 | exact fS5 | exact fS6 | exact fS7 | exact fS8 | exact fS9 | exact fS10 | exact fS11) rfl ?_)
      refine Qv ?_
      refine Xv ?_
      (refine XV rfl rfl (by with_reducible first | exact fR0t | exact fR1t | exact fR2t | exact fN0 | exact fN1 | exact fN4) rfl ?_)
      refine Qv ?_
      refine Xv ?_
      (refine Qz rfl rfl rfl ?_)
      refine Qv ?_
      refine Xv ?_
      (refine Qz rfl rfl rfl ?_)
      refine Qv ?_
      refine Xv ?_
      (refine Qz rfl rfl rfl ?_)
      refine Qv ?_
      refine Xv ?_
      (refine Qd rfl rfl (by with_reducible first | exact sAdrs.und | exact sPths.und | exact sRes.und) (List.length_map ..) rfl ?_)
      refine Qv ?_
      refine Xv ?_
      (refine Qk (iadd (by omega) (by omega)) rfl rfl rfl rfl ?_)
      refine Qv ?_
      refine Zr rfl rfl rfl rfl rfl (by with_reducible exact lInt) (Xr rfl) rfl ?_
      refine Zr rfl rfl rfl rfl rfl (by with_reducible exact lInt) (Xr rfl) rfl ?_
      refine Xv ?_
      refine Xf (j := va) rfl rfl rfl rfl (by with_reducible exact aNums) (by omega) (by omega) rfl ?_
      refine Qv ?_
      refine Zr (c := intC (nu.getD va.toNat 0)) rfl rfl rfl rfl (by rw [Nat.mul_one]; exact ints_get (by omega)) (by with_reducible exact lInt) (Xr rfl) rfl ?_
      refine Zr rfl rfl rfl rfl rfl (by with_reducible exact QU) (Xr rfl) rfl ?_
      refine Zr rfl rfl rfl rfl rfl (by with_reducible exact lInt) (Xr rfl) rfl ?_
      refine Fin.rfork ?_ ?_
      · refine Xh rfl goNext (Xu bs q4 (pp.length + 1) (by omega) (by omega) hb) rfl rfl rfl rfl rfl (fun y hy0 => ?_)
        obtain ⟨t, q5⟩ := y
        dsimp only at hy0 ⊢
        refine Xv ?_
        (refine Qk (iadd (by omega) (by omega)) rfl rfl rfl rfl ?_)
        refine Qv ?_
        refine Xv ?_
        refine Xq rfl (by with_reducible exact bRes) rfl (.one rfl rfl rfl rfl (.one rfl rfl rfl rfl (.one rfl rfl rfl rfl (.one rfl rfl rfl rfl (.one rfl rfl rfl rfl (.one rfl rfl rfl rfl (.one rfl rfl rfl rfl (.one rfl rfl rfl rfl .nil)))))))) rfl ?_
        refine Qv ?_
        refine Fin.rm ?_
        refine Qo 5 rfl rfl (by with_reducible exact zvRes) rfl rfl rfl ?_
        refine Qv ?_
        refine Fin.ra ?_
        refine Qr 17 rfl rfl rfl rfl rfl (by with_reducible exact szRes) rfl rfl ?_
        refine Qv ?_
        refine Z0 ?_
        exact hK _ _ (Xj hN (t, q5) ⟨hy0.1, by dsimp only; omega⟩ (by exact QK rfl ⟨rfl, rfl, rfl, rfl, rfl, rfl, rfl, rfl, rfl, rfl, rfl, rfl, trivial⟩))
      · refine Fin.rm ?_
        refine Qo 5 rfl rfl (by with_reducible exact zvRes) rfl rfl rfl ?_
        refine Qv ?_
        refine Xh rfl goNext (Xu bs q4 (pp.length + 1) (by omega) (by omega) hb) rfl rfl rfl rfl rfl (fun y hy0 => ?_)
        obtain ⟨t, q5⟩ := y
        dsimp only at hy0 ⊢
        refine Xv ?_
        (refine Qk (iadd (by omega) (by omega)) rfl rfl rfl rfl ?_)
        refine Qv ?_
        refine Xv ?_
        refine Xq rfl (by with_reducible exact bRes) rfl (.one rfl rfl rfl rfl (.one rfl rfl rfl rfl (.one rfl rfl rfl rfl (.one rfl rfl rfl rfl (.one rfl rfl rfl rfl (.one rfl rfl rfl rfl (.one rfl rfl rfl rfl (.one rfl rfl rfl rfl .nil)))))))) rfl ?_
        refine Qv ?_
        refine Fin.ra ?_
        refine Qr 17 rfl rfl rfl rfl rfl (by with_reducible exact szRes) rfl rfl ?_
        refine Qv ?_
        refine Z0 ?_
        exact hK _ _ (Xj hN (t, q5) ⟨hy0.1, by dsimp only; omega⟩ (by exact QK rfl ⟨rfl, rfl, rfl, rfl, rfl, rfl, rfl, rfl, rfl, rfl, rfl, rfl, trivial⟩))
    obtain ⟨t, q5⟩ := x
    obtain ⟨ht0, ht1⟩ := hx
    dsimp only at ht0 ht1 ⊢
    (refine Qw (Qx fun K hK => ?_); refine Qu rfl rfl rfl (by with_reducible first | exact fH0 | exact fH1 | exact fH2 | exact fS0 | exact fS1 | exact fS2 | exact fS3 | exact fS4 | exact fS5 | exact fS6 | exact fS7 | exact fS8 | exact fS9 | exact fS10 | exact fS11) rfl ?_; refine XV rfl rfl (by with_reducible first | exact fR0t | exact fR1t | exact fR2t | exact fN0 | exact fN1 | exact fN4) rfl ?_; refine QQ rfl rfl rfl rfl rfl (by with_reducible first | exact lInt | exact QU | exact lAdrs | exact lPths | exact Qi) rfl ?_)
    refine Xf (j := va) rfl rfl rfl rfl (by with_reducible exact aNums) (by omega) (by omega) rfl ?_
    refine QQ rfl rfl rfl rfl (by rw [Nat.mul_one]; exact ints_get (by omega)) (by with_reducible exact lInt) rfl ?_
    refine Qk (addW _ _) rfl rfl rfl rfl ?_
    refine Xf (j := va) rfl rfl rfl rfl (by with_reducible exact aNums) (by omega) (by omega) rfl ?_
    refine XX rfl rfl rfl rfl rfl (by with_reducible exact zInt) (by show va.toNat * 1 < (ints nu).length; rw [ints_length]; omega) ?_
    simp only [Ent.setc, ints_set, Nat.mul_one]
    (refine Qv (hK _ _ (Qq (Qw ?_))); clear hK K)
    refine St.drawR (by with_reducible exact mixed) 10 (.p 0 (.p 2 (.p 6 (.f 1 (.f 3 (.p 4 (.p 5 (.m 7 (.p 8 (.p 9 (.a 10 .done))))))))))) (by kernel_rfl) (fun K hK => ?_)
    refine Xv ?_
    (refine Qu rfl rfl rfl (by with_reducible first | exact fH0 | exact fH1 | exact fH2 | exact fS0 | exact fS1 | exact fS2 | exact fS3 | exact fS4 | exact fS5 | exact fS6 | exact fS7 | exact fS8 | exact fS9 | exact fS10 | exact fS11) rfl ?_)
    refine Qv ?_
    refine Xv ?_
    (refine Qu rfl rfl rfl (by with_reducible first | exact fH0 | exact fH1 | exact fH2 | exact fS0 | exact fS1 | exact fS2 | exact fS3 | exact fS4 | exact fS5 | exact fS6 | exact fS7 | exact fS8 | exact fS9 | exact fS10 | exact fS11) rfl ?_)
    refine Qv ?_
    refine Xv ?_
    (refine Qz rfl rfl rfl ?_)
    refine Qv ?_
    refine Zr (c := intC (tm + (1 + dt))) rfl rfl rfl rfl rfl (by with_reducible exact lInt) (Xr rfl) rfl ?_
    refine Zr (c := intC (1 + t)) rfl rfl rfl rfl rfl (by with_reducible exact lInt) (Xr rfl) rfl ?_
    refine Xv ?_
    (refine Qk (imul (by omega) (by omega)) rfl rfl rfl rfl ?_)
    refine Qv ?_
    refine Xv ?_
    (refine Qk (iadd (by omega) (by omega)) rfl rfl rfl rfl ?_)
    refine Qv ?_
    refine Xh rfl goNext (Xu bs q5 4 (by decide) (by decide) hb) rfl rfl rfl rfl rfl (fun y hy0 => ?_)
    obtain ⟨dd, q6⟩ := y
    dsimp only at hy0 ⊢
    refine Xv ?_
    (refine Qk (iadd (by omega) (by omega)) rfl rfl rfl rfl ?_)
    refine Qv ?_
    refine Xv ?_
    (refine Qu rfl rfl rfl (by with_reducible first | exact fH0 | exact fH1 | exact fH2 | exact fS0 | exact fS1 | exact fS2 | exact fS3 | exact fS4 | exact fS5 | exact fS6 | exact fS7 | exact fS8 | exact fS9 | exact fS10 | exact fS11) rfl ?_)
    refine Qv ?_
    refine Fin.ra ?_
    refine XX rfl rfl rfl rfl rfl (by with_reducible exact zInt) (Nat.le_of_ble_eq_true rfl) ?_
    refine Qv ?_
    refine Z0 ?_
    refine hK _ _ ?_
    clear hK K
    generalize hbk : tm + (1 + dt) + 5 * (1 + t) + dd = bk
    generalize hnu : nu.set va.toNat (IntKind.i64.wrap (nu.getD va.toNat 0 + 1)) = nu2
    have hnl2 : nu2.length = 16 := by rw [← hnu, List.length_set]; exact hnl
    clear hnu
    (refine Qq (Qw (Qx fun K hK => ?_)); refine Qz rfl rfl rfl ?_; refine Qz rfl rfl rfl ?_)
    refine Q9 goNext (Xu bs q6 5 (by decide) (by decide) hb) rfl rfl rfl rfl rfl (fun q hq7 => ?_)
    obtain ⟨di, q7⟩ := q
    dsimp only at hq7 ⊢
    (refine Qk (iadd (by omega) (by omega)) rfl rfl rfl rfl ?_; refine Qk (iadd (by omega) (by omega)) rfl rfl rfl rfl ?_; refine Qy rfl rfl rfl ?_; refine Qv (hK _ _ (Qq (Qw ?_))); clear hK K; refine Qx (fun K hK => ?_); refine Qu rfl rfl rfl (by with_reducible first | exact fH0 | exact fH1 | exact fH2 | exact fS0 | exact fS1 | exact fS2 | exact fS3 | exact fS4 | exact fS5 | exact fS6 | exact fS7 | exact fS8 | exact fS9 | exact fS10 | exact fS11) rfl ?_; refine QQ rfl rfl rfl rfl rfl (by with_reducible first | exact lInt | exact QU | exact lAdrs | exact lPths | exact Qi) rfl ?_; refine Qy rfl rfl rfl ?_; refine Qv (hK _ _ (Qq (Qw (Qw ?_)))); clear hK K; refine Qx (fun K hK => ?_); refine Qu rfl rfl rfl (by with_reducible first | exact fH0 | exact fH1 | exact fH2 | exact fS0 | exact fS1 | exact fS2 | exact fS3 | exact fS4 | exact fS5 | exact fS6 | exact fS7 | exact fS8 | exact fS9 | exact fS10 | exact fS11) rfl ?_; refine QQ rfl rfl rfl rfl rfl (by with_reducible first | exact lInt | exact QU | exact lAdrs | exact lPths | exact Qi) rfl ?_; refine Qz rfl rfl rfl ?_; refine Qd rfl rfl (by with_reducible first | exact sAdrs.und | exact sPths.und | exact sRes.und) (List.length_map ..) rfl ?_; refine Qk ileq rfl rfl rfl rfl ?_; refine Qv (hK _ _ (Qq ?_)); clear hK K)
    refine Ze (α := Ad) (fun _ => True) (fun a => [(0, .own 0), (1, .ct (intC most)), (2, .ct (boolC st)), (7, .own 1), (8, .own 2), (10, .ct (intC (id + (1 + di)))), (11, .own 3), (12, .ct (intC k)), (17, .own 5), (16, .ct (adrsC pp)), (18, .ct (adrF a))])
      (fun _ => [(5, .box 77 [intC va, intC 0, intC (nu.getD va.toNat 0), intC (tm + (1 + dt)), adrF ds, intC pr, intC f, intC (1 + t), boolC false, boolC false, intC bk, adrF 0, intC 0, intC 0, intC 0, intC 0, intC 0]), (4, .box 68 [intC va, adrF ds, intC pr, pthsC ps, adrF la]), (3, .box 72 (ints nu2)), (2, .row 77 17 (rss out)), (1, .row 68 5 (nts ns')), (0, .box 82 (codes bs q7))]) (fun a _ => ?_) (fun KK hN => ?_)
    rotate_left
    · refine Q7 rfl (fun h7 => ?_) (fun h7 => ?_)
      · (refine Qx (fun K hK => ?_); refine Qz rfl rfl rfl ?_; refine Qu rfl rfl rfl (by with_reducible first | exact fH0 | exact fH1 | exact fH2 | exact fS0 | exact fS1 | exact fS2 | exact fS3 | exact fS4 | exact fS5 | exact fS6 | exact fS7 | exact fS8 | exact fS9 | exact fS10 | exact fS11) rfl ?_; refine QQ rfl rfl rfl rfl rfl (by with_reducible first | exact lInt | exact QU | exact lAdrs | exact lPths | exact Qi) rfl ?_; refine Qk (isub (by omega) (by omega)) rfl rfl rfl rfl ?_; refine Ql rfl rfl rfl (by with_reducible exact sAdrs) (by omega) (adrs_at (by omega) (by omega)) rfl ?_; refine Zv rfl rfl rfl (by with_reducible first | exact QU | exact lAdrs) rfl ?_; refine Qy rfl rfl rfl ?_; refine Qv (hK _ _ ?_); clear hK K)
        exact Xj hN _ trivial (by exact QK rfl ⟨rfl, rfl, rfl, rfl, rfl, rfl, rfl, rfl, rfl, rfl, rfl, trivial⟩)
      · (refine Q5 ?_)
        exact Xj hN la trivial (by exact QK rfl ⟨rfl, rfl, rfl, rfl, rfl, rfl, rfl, rfl, rfl, rfl, rfl, trivial⟩)
    refine Qw ?_
    refine Ze (α := Rs × Nat) (fun x => x.1.bk = bk) (fun _ => [(0, .own 0), (1, .ct (intC most)), (2, .ct (boolC st)), (7, .own 1), (8, .own 2), (10, .ct (intC (id + (1 + di)))), (11, .own 3), (12, .ct (intC k)), (17, .own 5)])
      (fun x => [(5, .box 77 (rsCs x.1)), (4, .box 68 [intC va, adrF ds, intC pr, pthsC ps, adrF la]), (3, .box 72 (ints nu2)), (2, .row 77 17 (rss out)), (1, .row 68 5 (nts ns')), (0, .box 82 (codes bs x.2))]) (fun x hx => ?_) (fun KK hN => ?_)
    rotate_left
    · (refine Qw (Qx fun K hK => ?_); refine Qz rfl rfl rfl ?_; refine Qk ineq rfl rfl rfl rfl ?_; refine Qz rfl rfl rfl ?_)
      refine Ops.split 138 rfl (fun h8 => ?_) (fun h8 => ?_)
      · (refine Qz rfl rfl rfl ?_)
        refine Q9 goBool (YQ bs q7 5 (by decide) (by decide) hb) rfl rfl rfl rfl rfl (fun q _ => ?_)
        obtain ⟨b3, q8⟩ := q
        dsimp only
        (refine Qb rfl rfl rfl ?_; refine QZ rfl rfl rfl rfl ?_; refine Qv (hK _ _ (Qq ?_)); clear hK K)
        refine X5 rfl (fun _ => ?_) (fun _ => ?_)
        · (refine Qw (Qx fun K hK => ?_); refine Qz rfl rfl rfl ?_)
          refine Q9 goBool (YQ bs q8 30 (by decide) (by decide) hb) rfl rfl rfl rfl rfl (fun q _ => ?_)
          obtain ⟨b4, q9⟩ := q
          dsimp only
          (refine Qu rfl rfl rfl (by with_reducible first | exact fH0 | exact fH1 | exact fH2 | exact fS0 | exact fS1 | exact fS2 | exact fS3 | exact fS4 | exact fS5 | exact fS6 | exact fS7 | exact fS8 | exact fS9 | exact fS10 | exact fS11) rfl ?_; refine XX rfl rfl rfl rfl rfl (by with_reducible first | exact Zy | exact zInt | exact Zp | exact ZW) (Nat.le_of_ble_eq_true rfl) ?_; refine Qu rfl rfl rfl (by with_reducible first | exact fH0 | exact fH1 | exact fH2 | exact fS0 | exact fS1 | exact fS2 | exact fS3 | exact fS4 | exact fS5 | exact fS6 | exact fS7 | exact fS8 | exact fS9 | exact fS10 | exact fS11) rfl ?_; refine XX rfl rfl rfl rfl rfl (by with_reducible first | exact Zy | exact zInt | exact Zp | exact ZW) (Nat.le_of_ble_eq_true rfl) ?_; refine Qv (hK _ _ (Qq (Qw ?_))); clear hK K; refine Qx (fun K hK => ?_); refine Qz rfl rfl rfl ?_; refine Qz rfl rfl rfl ?_)
          refine Qk (irem (p := id + (1 + di)) (by omega) (by omega)) rfl rfl rfl rfl ?_
          generalize (id + (1 + di)) % 65536 = idr
          refine Xq rfl (by with_reducible exact bAns) rfl (.one rfl rfl rfl rfl (.one rfl rfl rfl rfl (.one rfl rfl rfl rfl (.one rfl rfl rfl rfl (.one rfl rfl rfl rfl .nil))))) rfl ?_
          (refine Qu rfl rfl rfl (by with_reducible first | exact fH0 | exact fH1 | exact fH2 | exact fS0 | exact fS1 | exact fS2 | exact fS3 | exact fS4 | exact fS5 | exact fS6 | exact fS7 | exact fS8 | exact fS9 | exact fS10 | exact fS11) rfl ?_)
          refine Ops.stNA rfl rfl rfl rfl rfl (by exact szAns) (Nat.le_of_ble_eq_true rfl) ?_
          refine Qv (hK _ _ ?_)
          clear hK K
          refine Qq ?_
          refine Qw ?_
          refine Ze (α := Int × Nat) (fun _ => True) (fun _ => [(0, .own 0), (1, .ct (intC most)), (2, .ct (boolC st)), (7, .own 1), (8, .own 2), (10, .ct (intC (id + (1 + di)))), (11, .own 3), (12, .ct (intC k)), (17, .own 5), (16, .ct (adrsC pp))])
            (fun x => [(5, .box 77 [intC va, intC 0, intC (nu.getD va.toNat 0), intC (tm + (1 + dt)), adrF ds, intC pr, intC f, intC (1 + t), boolC true, boolC b4, intC bk, adrF a, intC x.1, intC 0, intC 60, intC idr, intC 1]), (4, .box 68 [intC va, adrF ds, intC pr, pthsC ps, adrF la]), (3, .box 72 (ints nu2)), (2, .row 77 17 (rss out)), (1, .row 68 5 (nts ns')), (0, .box 82 (codes bs x.2))]) (fun x _ => ?_) (fun KK2 hN2 => ?_)
          rotate_left
          · (refine Qw (Qx fun K hK => ?_); refine Qu rfl rfl rfl (by with_reducible first | exact fH0 | exact fH1 | exact fH2 | exact fS0 | exact fS1 | exact fS2 | exact fS3 | exact fS4 | exact fS5 | exact fS6 | exact fS7 | exact fS8 | exact fS9 | exact fS10 | exact fS11) rfl ?_; refine QQ rfl rfl rfl rfl rfl (by with_reducible first | exact lInt | exact QU | exact lAdrs | exact lPths | exact Qi) rfl ?_; refine Qz rfl rfl rfl ?_; refine Qd rfl rfl (by with_reducible first | exact sAdrs.und | exact sPths.und | exact sRes.und) (List.length_map ..) rfl ?_; refine Qk igtr rfl rfl rfl rfl ?_; refine Qv (hK _ _ (Qq ?_)); clear hK K)
            refine Q7 rfl (fun h9 => ?_) (fun h9 => ?_)
            · (refine Qx (fun K hK => ?_); refine Qz rfl rfl rfl ?_)
              refine Ops.litI [3, 3, 2] rfl rfl (by with_reducible exact sInts) rfl ⟨rfl, rfl, rfl, rfl, rfl, rfl, trivial⟩ (by decide) rfl ?_
              refine Q9 goPick (Pick_ok bs q9 [3, 3, 2] (by decide) (by decide) hb) rfl rfl rfl rfl rfl (fun q hq8 => ?_)
              obtain ⟨ki, q10⟩ := q
              dsimp only
              (refine Qu rfl rfl rfl (by with_reducible first | exact fH0 | exact fH1 | exact fH2 | exact fS0 | exact fS1 | exact fS2 | exact fS3 | exact fS4 | exact fS5 | exact fS6 | exact fS7 | exact fS8 | exact fS9 | exact fS10 | exact fS11) rfl ?_; refine XV rfl rfl (by with_reducible first | exact fR0t | exact fR1t | exact fR2t | exact fN0 | exact fN1 | exact fN4) rfl ?_; refine XX rfl rfl rfl rfl rfl (by with_reducible first | exact Zy | exact zInt | exact Zp | exact ZW) (Nat.le_of_ble_eq_true rfl) ?_; refine Qv (hK _ _ ?_); clear hK K)
              exact Xj hN2 (ki, q10) trivial (by exact QK rfl ⟨rfl, rfl, rfl, rfl, rfl, rfl, rfl, rfl, rfl, rfl, trivial⟩)
            · (refine Q5 ?_)
              exact Xj hN2 (1, q9) trivial (by exact QK rfl ⟨rfl, rfl, rfl, rfl, rfl, rfl, rfl, rfl, rfl, rfl, trivial⟩)
          obtain ⟨ki, q10⟩ := x
          dsimp only
          (refine Qw (Qx fun K hK => ?_); refine Qz rfl rfl rfl ?_)
          refine Q9 goBool (YQ bs q10 5 (by decide) (by decide) hb) rfl rfl rfl rfl rfl (fun q _ => ?_)
          obtain ⟨b5, q11⟩ := q
          dsimp only
          (refine Qv (hK _ _ (Qq ?_)); clear hK K)
          refine X5 rfl (fun _ => ?_) (fun _ => ?_)
          · (refine Qx (fun K hK => ?_); refine Qz rfl rfl rfl ?_)
            refine Q9 goNext (Xu bs q11 65536 (by decide) (by decide) hb) rfl rfl rfl rfl rfl (fun q hq9 => ?_)
            obtain ⟨id2, q12⟩ := q
            dsimp only
            (refine Qu rfl rfl rfl (by with_reducible first | exact fH0 | exact fH1 | exact fH2 | exact fS0 | exact fS1 | exact fS2 | exact fS3 | exact fS4 | exact fS5 | exact fS6 | exact fS7 | exact fS8 | exact fS9 | exact fS10 | exact fS11) rfl ?_; refine XV rfl rfl (by with_reducible first | exact fR0t | exact fR1t | exact fR2t | exact fN0 | exact fN1 | exact fN4) rfl ?_; refine XX rfl rfl rfl rfl rfl (by with_reducible first | exact Zy | exact zInt | exact Zp | exact ZW) (Nat.le_of_ble_eq_true rfl) ?_; refine Qv (hK _ _ ?_); clear hK K)
            exact Xj hN (⟨va, 0, nu.getD va.toNat 0, tm + (1 + dt), ds, pr, f, 1 + t, true, b4, bk, a, ki, 0, 60, id2, 1⟩, q12) rfl (by exact QK rfl ⟨rfl, rfl, rfl, rfl, rfl, rfl, rfl, rfl, rfl, trivial⟩)
          · (refine Q5 ?_)
            exact Xj hN (⟨va, 0, nu.getD va.toNat 0, tm + (1 + dt), ds, pr, f, 1 + t, true, b4, bk, a, ki, 0, 60, idr, 1⟩, q11) rfl (by exact QK rfl ⟨rfl, rfl, rfl, rfl, rfl, rfl, rfl, rfl, rfl, trivial⟩)
        · (refine Q5 ?_)
          exact Xj hN (⟨va, 0, nu.getD va.toNat 0, tm + (1 + dt), ds, pr, f, 1 + t, false, false, bk, 0, 0, 0, 0, 0, 0⟩, q8) rfl (by exact QK rfl ⟨rfl, rfl, rfl, rfl, rfl, rfl, rfl, rfl, rfl, trivial⟩)
      · (refine Qj rfl rfl rfl ?_; refine Qj rfl rfl rfl ?_; refine Qj rfl rfl rfl ?_; refine Q2 rfl rfl rfl rfl ?_; refine Qv (hK _ _ (Qq (Qe rfl (Q5 ?_)))); clear hK K)
        exact Xj hN (⟨va, 0, nu.getD va.toNat 0, tm + (1 + dt), ds, pr, f, 1 + t, false, false, bk, 0, 0, 0, 0, 0, 0⟩, q7) rfl (by exact QK rfl ⟨rfl, rfl, rfl, rfl, rfl, rfl, rfl, rfl, rfl, trivial⟩)
    obtain ⟨r, q8⟩ := x
    dsimp only at hx ⊢
    (refine Qw (Qx fun K hK => ?_); refine Qu rfl rfl rfl (by with_reducible first | exact fH0 | exact fH1 | exact fH2 | exact fS0 | exact fS1 | exact fS2 | exact fS3 | exact fS4 | exact fS5 | exact fS6 | exact fS7 | exact fS8 | exact fS9 | exact fS10 | exact fS11) rfl ?_; refine QQ rfl rfl rfl rfl rfl (by with_reducible first | exact lInt | exact QU | exact lAdrs | exact lPths | exact Qi) rfl ?_; refine Qy rfl rfl rfl ?_; refine Qv (hK _ _ (Qq ?_)); clear hK K; refine Qx (fun K hK => ?_); refine Qz rfl rfl rfl ?_; refine Qm (n := 17) rfl rfl rfl rfl rfl (by with_reducible exact lRes) rfl ?_)
    refine Xm (n := 17) rfl rfl (by with_reducible exact sRes) rfl rfl (by decide) rfl ?_
    refine Xk out.length (rss (out ++ [r])) rfl rfl rfl rfl (by with_reducible exact sRes) (Xw out) rfl (by omega) (by omega) (rss_snocD out r) rfl ?_
    (refine Qy rfl rfl rfl ?_; refine Qv (hK _ _ (Qq ?_)); clear hK K; refine Qx (fun K hK => ?_); refine Qz rfl rfl rfl ?_; refine Qk (isub (by omega) (by omega)) rfl rfl rfl rfl ?_; refine Qy rfl rfl rfl ?_; refine Qv (hK _ _ (Qa ?_)); clear hK K)
    refine X7 5 ?_
    refine X7 4 ?_
    refine Qg ⟨k - 1, ns', r.bk, id + (1 + di), nu2, out ++ [r], q8⟩ (by dsimp only; omega) ⟨by dsimp only; omega, by simp; omega, by dsimp only; omega, by dsimp only; omega, hnt', by dsimp only; omega, by dsimp only; omega, by dsimp only; omega, by dsimp only; omega, hnl2⟩ (by exact QK rfl ⟨rfl, rfl, rfl, rfl, rfl, rfl, rfl, rfl, rfl, trivial⟩)
  · refine St.frz 2 _ rfl (Zd _ _) (Z4 rfl) ?_
    (refine Qh (Qq (Qw (Qx fun K hK => ?_))); refine Qz rfl rfl rfl ?_; refine Qy rfl rfl rfl ?_; refine Qv (hK _ _ (Qq (Q0 ?_))); clear hK K)
    refine Xe (out, q0) [_] rfl (QJ rfl QX) rfl rfl (by dsimp only; omega)
end Go.Proofs.YtcelmhkpcdhneaaGreat
namespace Go.Proofs.YtcelmhkpcdhneaaGreat
open Go.Own Go.Limbs
attribute [local irreducible] St Ops Go.Own.Fin Ok OkB OkN OkT OkL OkF
theorem gorKnown : InGo Tryz.prog 12 := InGo.of Tryz.func12 rfl (by decide)
set_option maxHeartbeats 4000000 in
theorem rKnown_ok (l : List Rs) (t : Int) (hl : l.length ≤ 10000) : Ok Tryz.prog 12 [rssC l, intC t] (rssC (ordF cmpR rs0 okR (l.filter fun r => decide (r.bk ≤ t)) [])) := by
  refine Ok.enter Tryz.func12 rfl _ Tryz.ntmps12 rfl ?_
  intro S w
  (refine Qw (Qx fun K hK => ?_); refine Qy rfl rfl rfl ?_; refine Qv (hK _ _ (Qq (Qw ?_))); clear hK K; refine Qx (fun K hK => ?_); refine Qy rfl rfl rfl ?_; refine Qv (hK _ _ (Qq (Qw (Qw ?_)))); clear hK K; refine Qx (fun K hK => ?_); refine Qy rfl rfl rfl ?_; refine Qv (hK _ _ (Qq (Q4 ?_))); clear hK K)
  refine Zf 5 0 77 17 rfl rfl rfl ?_
  skip
  refine Qt (α := Nat) (fun i => i ≤ l.length)
    (fun i => [(0, .ct (rssC l)), (1, .ct (intC t)), (5, .own 0), (6, .ct (intC i))]) (fun i => [(0, .row 77 17 (rss ((l.take i).filter fun r => decide (r.bk ≤ t))))]) (fun i => l.length - i) 0 (Nat.zero_le _) (by exact QK rfl ⟨rfl, rfl, rfl, rfl, trivial⟩) ?_
  intro i hi
  try dsimp only at hi
  try dsimp only
  (refine Qw (Qw (Qx fun K hK => ?_)); refine Qz rfl rfl rfl ?_; refine Qz rfl rfl rfl ?_; refine Qd rfl rfl (by with_reducible exact sRes.und) (List.length_map ..) rfl ?_; refine Qk ilss rfl rfl rfl rfl ?_; refine Qv (hK _ _ (Qq ?_)); clear hK K)
  refine Q7 rfl (fun h => ?_) (fun h => ?_)
  · have e2 : (i : Int).toNat = i := Int.toNat_natCast i
    have hs := filter_take (fun r => decide (r.bk ≤ t)) (z := rs0) (i := i) (l := l) (by omega)
    have hfl := filter_len (fun r => decide (r.bk ≤ t)) l i
    (refine Q5 (Qq (Qw (Q4 (Qw (Qx fun K hK => ?_))))); refine Qz rfl rfl rfl ?_; refine Qz rfl rfl rfl ?_; refine Ql rfl rfl rfl (by with_reducible exact sRes) (by omega) (Yq (by omega) (by omega)) rfl ?_)
    rw [e2]
    generalize hc : l.getD i rs0 = c at hs
    refine Ops.fldF rfl rfl (by with_reducible exact fS10) rfl ?_
    refine Zv rfl rfl rfl (by with_reducible exact lInt) rfl ?_
    (refine Qz rfl rfl rfl ?_; refine Qk ileq rfl rfl rfl rfl ?_; refine Qv (hK _ _ (Qq ?_)); clear hK K)
    refine Q7 rfl (fun h2 => ?_) (fun h2 => ?_)
    · rw [if_pos (decide_eq_true h2)] at hs
      (refine Qx (fun K hK => ?_); refine Qz rfl rfl rfl ?_; refine Qz rfl rfl rfl ?_; refine Qz rfl rfl rfl ?_; refine Ql rfl rfl rfl (by with_reducible exact sRes) (by omega) (Yq (by omega) (by omega)) rfl ?_; refine Qs (n := 17) rfl rfl rfl (by with_reducible exact lRes) rfl rfl ?_)
      rw [e2, hc]
      generalize (l.take i).filter (fun r => decide (r.bk ≤ t)) = out at hs hfl ⊢
      refine Xm (n := 17) rfl rfl (by with_reducible exact sRes) rfl rfl (by decide) rfl ?_
      refine Xk out.length (rss (out ++ [c])) rfl rfl rfl rfl (by with_reducible exact sRes) (Xw out) rfl (by omega) (by omega) (rss_snoc out c) rfl ?_
      (refine Qy rfl rfl rfl ?_; refine Qv (hK _ _ (Qq ?_)); clear hK K; refine Qx (fun K hK => ?_); refine Qz rfl rfl rfl ?_; refine Qk (iadd (by omega) (by omega)) rfl rfl rfl rfl ?_; refine Qy rfl rfl rfl ?_; refine Qv (hK _ _ (Qa ?_)); clear hK K)
      refine Qg (i + 1) (by omega) (by omega) (by rw [hs]; exact QK rfl ⟨rfl, rfl, rfl, by simp only [Int.natCast_add]; rfl, trivial⟩)
    · rw [if_neg (fun h3 => h2 (of_decide_eq_true h3))] at hs
      (refine Q5 (Qq (Qx fun K hK => ?_)); refine Qz rfl rfl rfl ?_; refine Qk (iadd (by omega) (by omega)) rfl rfl rfl rfl ?_; refine Qy rfl rfl rfl ?_; refine Qv (hK _ _ (Qa ?_)); clear hK K)
      refine Qg (i + 1) (by omega) (by omega) (by rw [hs]; exact QK rfl ⟨rfl, rfl, rfl, by simp only [Int.natCast_add]; rfl, trivial⟩)
  · have hi' : i = l.length := by omega
    rw [hi', List.take_length]
    have hfl : (l.filter fun r => decide (r.bk ≤ t)).length ≤ l.length := List.length_filter_le _ _
    generalize (l.filter fun r => decide (r.bk ≤ t)) = m at hfl ⊢
    refine St.freeze 0 _ rfl (Zd _ _) X1 ?_
    (refine Qh (Qq (Qw (Qx fun K hK => ?_))); refine Qz rfl rfl rfl ?_)
    refine Q3 gorOrder (rOrder_ok m (by omega)) rfl rfl rfl rfl ?_
    (refine Qy rfl rfl rfl ?_; refine Qv (hK _ _ (Qq (Q0 ?_))); clear hK K)
    refine Q1 [_] rfl (QJ rfl QX) rfl rfl
theorem knows (l : List Rs) (t : Int) : (sd cmpR (l.filter okR)).filter (fun r => !decide (t < r.bk)) = ordF cmpR rs0 okR (l.filter fun r => decide (r.bk ≤ t)) [] := by
  rw [show (fun r : Rs => !decide (t < r.bk)) = fun r => decide (r.bk ≤ t) by
    funext r
    by_cases h : t < r.bk
    · rw [decide_eq_true h, decide_eq_false (by omega)]; rfl
    · rw [decide_eq_false h, decide_eq_true (by omega)]; rfl]
  exact known_eq ordR rs0 okR _ l
end Go.Proofs.YtcelmhkpcdhneaaGreat
namespace Go.Proofs.YtcelmhkpcdhneaaGreat
open Go.Own
theorem Asc.snoc {l : List Cl} {y : Cl} (h : Asc l) (hy : ∀ z ∈ l, cmpC z y < 0) : Asc (l ++ [y]) := by
  induction l with
  | nil => trivial
  | cons x r ih =>
    refine Asc.cons (fun z hz => ?_) (ih h.tail (fun z hz => hy z (List.mem_cons_of_mem _ hz)))
    rcases List.mem_append.1 hz with hz | hz
    · exact h.head z hz
    · rw [List.mem_singleton.1 hz]; exact hy x (List.mem_cons_self ..)
theorem Asc.unsnoc {l : List Cl} {y : Cl} (h : Asc (l ++ [y])) : Asc l ∧ ∀ z ∈ l, cmpC z y < 0 := by
  induction l with
  | nil => exact ⟨trivial, fun z hz => by cases hz⟩
  | cons x r ih =>
    obtain ⟨h1, h2⟩ := ih h.tail
    refine ⟨Asc.cons (fun z hz => h.head z (List.mem_append_left _ hz)) h1, fun z hz => ?_⟩
    rcases List.mem_cons.1 hz with rfl | hz
    · exact h.head y (List.mem_append_right _ (List.mem_singleton.2 rfl))
    · exact h2 z hz
theorem Asc.nodup {l : List Cl} (h : Asc l) : l.Nodup := by
  induction l with
  | nil => exact List.nodup_nil
  | cons x r ih => exact List.nodup_cons.2 ⟨h.head.not, ih h.tail⟩
theorem getD_mid (a : List Cl) (x : Cl) (r : List Cl) : (a ++ x :: r).getD a.length c0 = x := by
  simp [List.getD_eq_getElem?_getD]
theorem sift_spec : ∀ (n : Nat) (a : List Cl) (x : Cl) (r : List Cl), a.length = n → Asc a → x ∉ a → ∃ a', sift (a ++ x :: r) n = a' ++ r ∧ Asc a' ∧ a'.length = n + 1 ∧ ∀ z, z ∈ a' ↔ z ∈ a ∨ z = x
  | 0, a, x, r, hl, _, _ => by
    have : a = [] := List.eq_nil_of_length_eq_zero hl
    subst this
    exact ⟨[x], rfl, trivial, rfl, by simp⟩
  | n + 1, a, x, r, hl, ha, hx => by
    obtain ⟨b, y, rfl⟩ : ∃ b y, a = b ++ [y] := ⟨a.dropLast, a.getLast (by intro h; subst h; simp at hl), (List.dropLast_concat_getLast _).symm⟩
    have hbl : b.length = n := by simpa using hl
    obtain ⟨hb, hby⟩ := ha.unsnoc
    have hxb : x ∉ b := fun h => hx (List.mem_append_left _ h)
    have hxy : x ≠ y := fun h => hx (List.mem_append_right _ (by simp [h]))
    have e1 : (b ++ [y] ++ x :: r).getD (n + 1) c0 = x := by
      have := getD_mid (b ++ [y]) x r
      rwa [hl] at this
    have e2 : (b ++ [y] ++ x :: r).getD n c0 = y := by
      have := getD_mid b y (x :: r)
      rw [hbl] at this
      rw [List.append_assoc]; exact this
    have e3 : swp (b ++ [y] ++ x :: r) n = b ++ x :: (y :: r) := by
      unfold swp
      rw [e1, e2, List.append_assoc, ← hbl]
      simp [List.set_append_right]
    simp only [sift]
    rw [e1, e2, e3]
    by_cases hc : cmpC x y < 0
    · rw [if_pos hc]
      obtain ⟨b', h1, h2, h3, h4⟩ := sift_spec n b x (y :: r) hbl hb hxb
      refine ⟨b' ++ [y], by rw [h1]; simp, h2.snoc (fun z hz => ?_), by simp [h3], fun z => ?_⟩
      · rcases (h4 z).1 hz with h5 | h5
        · exact hby z h5
        · rw [h5]; exact hc
      · rw [List.mem_append, h4, List.mem_append]
        constructor
        · rintro ((h | h) | h)
          · exact .inl (.inl h)
          · exact .inr h
          · exact .inl (.inr h)
        · rintro ((h | h) | h)
          · exact .inl (.inl h)
          · exact .inr h
          · exact .inl (.inr h)
    · rw [if_neg hc]
      have hyx : cmpC y x < 0 := by
        rw [cmpC_anti x y]
        have : cmpC x y ≠ 0 := fun h => hxy (cmpC_eq h)
        omega
      refine ⟨b ++ [y] ++ [x], by simp, ha.snoc (fun z hz => ?_), by simp [hbl], fun z => by rw [List.mem_append, List.mem_singleton]⟩
      rcases List.mem_append.1 hz with h5 | h5
      · exact cmpC_trans (hby z h5) hyx
      · rw [List.mem_singleton.1 h5]; exact hyx
theorem isort_spec (l : List Cl) (hn : l.Nodup) : ∀ i, i < l.length → ∃ p, isort l i = p ++ l.drop (i + 1) ∧ Asc p ∧ p.length = i + 1 ∧ ∀ z, z ∈ p ↔ z ∈ l.take (i + 1)
  | 0, h => ⟨[l.getD 0 c0], by rw [show isort l 0 = l.drop 0 by rfl, dropC h]; rfl, trivial, rfl, fun z => by
      have : l.take 1 = [l.getD 0 c0] := by
        have := dropC h
        rw [List.drop_zero] at this
        conv => lhs; rw [this]
        rfl
      rw [this]⟩
  | i + 1, h => by
    obtain ⟨p, h1, h2, h3, h4⟩ := isort_spec l hn i (by omega)
    have ht : l.take (i + 2) = l.take (i + 1) ++ [l.getD (i + 1) c0] := by
      rw [List.take_add_one, List.getElem?_eq_getElem h, List.getD_eq_getElem?_getD, List.getElem?_eq_getElem h]; rfl
    have hx : l.getD (i + 1) c0 ∉ p := fun hm => by
      have hm := (h4 _).1 hm
      have h5 : (l.take (i + 2)).Nodup := hn.sublist (List.take_sublist _ _)
      rw [ht] at h5
      exact (List.nodup_append.1 h5).2.2 _ hm _ (by simp) rfl
    simp only [isort]
    rw [h1, dropC h]
    obtain ⟨p', g1, g2, g3, g4⟩ := sift_spec (i + 1) p (l.getD (i + 1) c0) (l.drop (i + 2)) h3 h2 hx
    exact ⟨p', g1, g2, g3, fun z => by rw [g4, h4, ht]; simp⟩
theorem srt_spec {l : List Cl} (hn : l.Nodup) : Asc (srt l) ∧ ∀ z, z ∈ srt l ↔ z ∈ l := by
  by_cases h : l = []
  · subst h; exact ⟨trivial, fun z => Iff.rfl⟩
  · have hl := List.length_pos_iff.2 h
    obtain ⟨p, h1, h2, h3, h4⟩ := isort_spec l hn (l.length - 1) (by omega)
    have e : srt l = p := by
      unfold srt
      rw [h1, List.drop_of_length_le (by omega), List.append_nil]
    rw [e]
    exact ⟨h2, fun z => by rw [h4, List.take_of_length_le (by omega)]⟩
theorem srt_asc {l : List Cl} (h : Asc l) : srt l = l := Asc.ext (srt_spec h.nodup).1 h (srt_spec h.nodup).2
structure Good (n : Nat) (l : List Cl) : Prop where
  asc : Asc l
  val : ∀ c ∈ l, ValidP c
  len : l.length ≤ n
structure Step (a b : List Cl) : Prop where
  w : wo (wo a b) (wo b a) = wo a b
  len : (wo a (wo a b)).length + (wo a b).length = a.length
  mc : wo (wo b a) a = wo b a
  res : srt (wo a (wo a b) ++ wo b a) = b
attribute [local irreducible] Go.Own.Fin Ok OkB OkF OkL OkN OkT Ops St
theorem goclaim : InGo Tryz.prog 26 := InGo.of Tryz.func26 rfl (by decide)
theorem claim_ok (a b : Int) : Ok Tryz.prog 26 [adrC a, adrC b] (clC ⟨1, a, b, 0, 0, 0, 0⟩) := by
  refine Ok.enter Tryz.func26 rfl _ Tryz.ntmps26 rfl ?_
  intro S w
  (refine Qw (Qx fun K hK => ?_); refine Qo 0 rfl rfl (by with_reducible exact zvClaim) rfl rfl rfl ?_; refine Qv (hK _ _ (Qq (Qw ?_))); clear hK K; refine Qx (fun K hK => ?_); refine Qz rfl rfl rfl ?_; refine Qz rfl rfl rfl ?_)
  refine Xq rfl (by with_reducible exact bClaim) rfl (.one rfl rfl rfl rfl (.one rfl rfl rfl rfl (.one rfl rfl rfl rfl .nil))) rfl ?_
  (refine Qr 7 rfl rfl rfl rfl rfl (by with_reducible exact Zg) rfl rfl ?_; refine Qv (hK _ _ (Qq (Q0 ?_))); clear hK K)
  refine Fin.end [_] rfl (X4 (n := 7) rfl rfl (by with_reducible exact Xz) rfl QX) rfl rfl
def x12 : Cl := ⟨1, 1, 2, 0, 0, 0, 0⟩
def x23 : Cl := ⟨1, 2, 3, 0, 0, 0, 0⟩
theorem n11 : ¬ cmpC x12 x12 < 0 := by decide
theorem n11' : ¬ 0 < cmpC x12 x12 := by decide
theorem n21 : ¬ cmpC x23 x12 < 0 := by decide
theorem p21 : 0 < cmpC x23 x12 := by decide
theorem wA : wo [x12] [x12, x23] = [] := by rw [ZU, if_neg n11, if_neg n11', wo_nil]
theorem wB0 : wo [x23] [x12] = [x23] := by rw [ZU, if_neg n21, if_pos p21, wo_end, wo_nil]
theorem wB : wo [x12, x23] [x12] = [x23] := by rw [ZU, if_neg n11, if_neg n11', wB0]
theorem aA : Asc [x12] := trivial
theorem aB : Asc [x12, x23] := ⟨by decide, trivial⟩
theorem vD0 : ∃ fs F D, Tryz.prog.underlying 33 = some (.struct fs) ∧ fs[0]? = some F ∧ F.offset = 0 ∧ Tryz.prog.underlying F.type = some D ∧ isAggD D = false := ⟨_, _, _, Tryz.underlying33, rfl, rfl, Tryz.underlying24, rfl⟩
theorem fldVe {X : Ctx} {L : AL} {B : BL} {ops : Array Oper} {K : Act → World → Prop} {r : Pl} {k : Kd} {x : Operand} {d t t' : Nat} {pos : String} {af : Array Edge} {g : Option (Nat × Bool)} {f off : Nat} {cs : List CT} {c : CT} (hg : gd ops L g = some true) (hx : ev L x = some (.ct (.fr (aggT cs))))
    (hV : ∃ fs F D, X.P.underlying t = some (.struct fs) ∧ fs[f]? = some F ∧ F.offset = off ∧ X.P.underlying F.type = some D ∧ isAggD D = false) (hc : cs[off]? = some c) (hn : Nat.blt d X.n = true)
    (h : Ops X ops r ((d, .ct c) :: L) B K) : Ops X ops (.cons ⟨some d, .field t x f, t', pos, af, g⟩ k r) L B K := by
  obtain ⟨fs, F, D, h1, h2, h3, h4, h5⟩ := hV
  exact Ops.fldV hg hx h1 h2 h3 h4 h5 hc hn h
theorem goVawake : InGo Tryz.prog 4 := InGo.of Tryz.func4 rfl (by decide)
set_option maxHeartbeats 4000000 in
theorem Vawake_ok : Ok Tryz.prog 4 [] (boolC true) := by
  have hC := VCmp_ok [x12] [x12, x23] (by decide) (by decide) (srt_asc aA) (srt_asc aB) aA aB
  rw [wA, wB] at hC
  have hA := Apply_ok [x12] [] [x23] (by decide) (by decide) (by decide) aA trivial trivial (fun c hc => by cases hc) (fun c hc => by rw [List.mem_singleton.1 hc]; decide) (wo_nil _) (by rw [wo_end, wo_nil]; rfl) wB0 (by rw [wo_end, wo_nil]; decide) (by rw [wo_end, wo_nil]; exact (show Asc (srt [x12, x23]) by rw [srt_asc aB]; exact aB))
  rw [show srt (wo [x12] [] ++ [x23]) = [x12, x23] by rw [wo_end, wo_nil]; exact srt_asc aB] at hA
  have hI := Inv_ok [] [x23] (by decide) (by decide)
  have hS := Same_refl [] [x23] (by decide) (by decide)
  have c12 : Ok Tryz.prog 26 [adrC 1, adrC 2] (clC x12) := claim_ok 1 2
  have c23 : Ok Tryz.prog 26 [adrC 2, adrC 3] (clC x23) := claim_ok 2 3
  refine Ok.enter Tryz.func4 rfl _ Tryz.ntmps4 rfl ?_
  intro S w
  (refine Qw (Qx fun K hK => ?_); refine Qy rfl rfl rfl ?_; refine Qv (hK _ _ (Qq (Qw ?_))); clear hK K; refine Qx (fun K hK => ?_))
  refine Q3 goclaim c12 rfl rfl rfl rfl ?_
  refine Xm (n := 7) rfl rfl (by with_reducible exact sClaims) rfl rfl (by decide) rfl ?_
  refine Xq rfl (by with_reducible exact bAtlas) rfl (.one rfl rfl rfl rfl .nil) rfl ?_
  refine Q3 goclaim c12 rfl rfl rfl rfl ?_
  refine Q3 goclaim c23 rfl rfl rfl rfl ?_
  refine Za (m := 2) (n := 7) (cs := clCs x12 ++ clCs x23) rfl rfl (by with_reducible exact sClaims) (.agg rfl rfl rfl rfl (.agg rfl rfl rfl rfl .nil)) (by decide) rfl ?_
  refine Xq rfl (by with_reducible exact bAtlas) rfl (.one rfl rfl rfl rfl .nil) rfl ?_
  (refine Qo 0 rfl rfl (by with_reducible exact zvAtlas) rfl rfl rfl ?_; refine Qo 1 rfl rfl (by with_reducible exact zvAtlas) rfl rfl rfl ?_; refine Qr 4 rfl rfl rfl rfl rfl (by with_reducible first | exact szAtlas | exact szEv) rfl rfl ?_; refine Qr 4 rfl rfl rfl rfl rfl (by with_reducible first | exact szAtlas | exact szEv) rfl rfl ?_; refine Qv (hK _ _ (Qq (Qw ?_))); clear hK K; refine Qx (fun K hK => ?_); refine Qm (n := 4) rfl rfl rfl rfl rfl (by with_reducible first | exact Zm | exact lEv) rfl ?_; refine Qm (n := 4) rfl rfl rfl rfl rfl (by with_reducible first | exact Zm | exact lEv) rfl ?_)
  refine Q3 goVCmp hC rfl rfl rfl rfl ?_
  (refine Qo 2 rfl rfl (by with_reducible exact zvDiff) rfl rfl rfl ?_; refine Qr 2 rfl rfl rfl rfl rfl (by with_reducible exact szDiff) rfl rfl ?_; refine Qv (hK _ _ (Qq (Qw ?_))); clear hK K; refine Qx (fun K hK => ?_); refine Qu rfl rfl rfl (by with_reducible first | exact fK0 | exact fK1 | exact fK2 | exact fK3 | exact fK4 | exact fK5 | exact fK6 | exact fE0 | exact fE1 | exact fE2 | exact fE3 | exact fA0 | exact fD0 | exact fD1) rfl ?_; refine QQ rfl rfl rfl rfl rfl (by with_reducible first | exact lInt | exact QU | exact QW | exact QY | exact lIDs) rfl ?_; refine Qm (n := 2) rfl rfl rfl rfl rfl (by with_reducible exact Zz) rfl ?_)
  refine Q3 goApply hA rfl rfl rfl rfl ?_
  (refine Qz rfl rfl rfl ?_; refine Yx rfl rfl rfl rfl ?_; refine Yx rfl rfl rfl rfl ?_; refine Qy rfl rfl rfl ?_; refine Qy rfl rfl rfl ?_; refine Qv (hK _ _ (Qq (Qw ?_))); clear hK K)
  refine Qp (by with_reducible exact mixed) 40 (.p 0 (.f 1 (.p 2 (.p 3 (.p 4 (.p 5 (.f 6 (.p 7 (.p 8 (.p 9 (.p 10 (.p 11 (.f 12 (.p 13 (.f 14 (.m 15 (.p 16 (.p 17 (.p 18 (.p 19 (.p 20 (.p 21 (.p 22 (.p 23 (.p 24 (.p 25 (.p 26 (.p 27 (.f 28 (.m 29 (.p 30 (.p 31 (.p 32 (.p 33 (.p 34 (.f 35 (.f 36 (.m 37 (.p 38 (.p 39 .done)))))))))))))))))))))))))))))))))))))))) (by kernel_rfl) (fun K hK => ?_)
  (refine Qu rfl rfl rfl (by with_reducible first | exact fK0 | exact fK1 | exact fK2 | exact fK3 | exact fK4 | exact fK5 | exact fK6 | exact fE0 | exact fE1 | exact fE2 | exact fE3 | exact fA0 | exact fD0 | exact fD1) rfl ?_; refine QQ rfl rfl rfl rfl rfl (by with_reducible first | exact lInt | exact QU | exact QW | exact QY | exact lIDs) rfl ?_; refine Qd rfl rfl (by with_reducible first | exact sClaims.und | exact sInts.und | exact sLists.und) (List.length_map ..) rfl ?_; refine Qk ieql rfl rfl rfl rfl ?_; refine Qz rfl rfl rfl ?_; refine Qu rfl rfl rfl (by with_reducible first | exact fK0 | exact fK1 | exact fK2 | exact fK3 | exact fK4 | exact fK5 | exact fK6 | exact fE0 | exact fE1 | exact fE2 | exact fE3 | exact fA0 | exact fD0 | exact fD1) rfl ?_; refine QQ rfl rfl rfl rfl rfl (by with_reducible first | exact lInt | exact QU | exact QW | exact QY | exact lIDs) rfl ?_; refine Qd rfl rfl (by with_reducible first | exact sClaims.und | exact sInts.und | exact sLists.und) (List.length_map ..) rfl ?_; refine Qk ieql rfl rfl rfl rfl ?_; refine QZ rfl rfl rfl rfl ?_; refine Qz rfl rfl rfl ?_; refine Qu rfl rfl rfl (by with_reducible first | exact fK0 | exact fK1 | exact fK2 | exact fK3 | exact fK4 | exact fK5 | exact fK6 | exact fE0 | exact fE1 | exact fE2 | exact fE3 | exact fA0 | exact fD0 | exact fD1) rfl ?_; refine QQ rfl rfl rfl rfl rfl (by with_reducible first | exact lInt | exact QU | exact QW | exact QY | exact lIDs) rfl ?_)
  refine Ql rfl rfl rfl (by with_reducible exact sClaims) (by decide) (Xg (l := [x23]) (by decide) (by decide)) rfl ?_
  (refine Qs (n := 7) rfl rfl rfl (by with_reducible exact Xz) rfl rfl ?_)
  refine Q3 goclaim c23 rfl rfl rfl rfl ?_
  refine Ops.eqS (ks := clK) (clI x23) (clI x23) rfl rfl rfl rfl rfl (by with_reducible exact eClaim) rfl ?_
  rw [decide_eq_true rfl]
  (refine QZ rfl rfl rfl rfl ?_; refine Qz rfl rfl rfl ?_; refine Qz rfl rfl rfl ?_; refine Qk ieql rfl rfl rfl rfl ?_; refine QZ rfl rfl rfl rfl ?_; refine Qz rfl rfl rfl ?_; refine Qz rfl rfl rfl ?_; refine Qd rfl rfl (by with_reducible first | exact sClaims.und | exact sInts.und | exact sLists.und) (List.length_map ..) rfl ?_; refine Qk ieql rfl rfl rfl rfl ?_; refine QZ rfl rfl rfl rfl ?_; refine Qz rfl rfl rfl ?_; refine Qm (n := 2) rfl rfl rfl rfl rfl (by with_reducible exact Zz) rfl ?_)
  refine Q3 goInv hI rfl rfl rfl rfl ?_
  refine fldVe rfl rfl (by with_reducible exact vD0) rfl rfl ?_
  (refine Qd rfl rfl (by with_reducible first | exact sClaims.und | exact sInts.und | exact sLists.und) (List.length_map ..) rfl ?_; refine Qk ieql rfl rfl rfl rfl ?_; refine QZ rfl rfl rfl rfl ?_; refine Qz rfl rfl rfl ?_; refine Qm (n := 2) rfl rfl rfl rfl rfl (by with_reducible exact Zz) rfl ?_; refine Qm (n := 2) rfl rfl rfl rfl rfl (by with_reducible exact Zz) rfl ?_)
  refine Q3 goSame hS rfl rfl rfl rfl ?_
  (refine QZ rfl rfl rfl rfl ?_; refine Qy rfl rfl rfl ?_; refine Qv (hK _ _ (Qq (Q0 ?_))); clear hK K)
  refine Q1 [_] rfl (QJ rfl QX) rfl rfl
end Go.Proofs.YtcelmhkpcdhneaaGreat
namespace Go.Own
open Go.RowKit
variable {X : Ctx} {L : AL} {B : BL}
theorem St.weakBox {c' : Code} {Q : Exit → Act → World → Prop} (i : Nat) {t : TypeId} {cs : List CT} (ds : List CT) (hi : bget B i = some (.box t cs)) (hw : argW cs ds) (h : St X L (bset B i (.box t ds)) c' Q) : St X L B c' Q := fun a ρ w hI =>
  h a ρ w (hI.retype (e' := .box t ds) hi (by obtain ⟨gb, us, a1, a2, a3⟩ := (hI.ent i _ hi).1; exact ⟨gb, us, a1, a2, hw.cells a3⟩) rfl)
theorem Ops.neBs {ops : Array Oper} {K : Act → World → Prop} {r : Pl} {k : Kd} {x y : Operand} {d : Nat} {t t2 t' : TypeId} {pos : String} {af : Array Edge} {g : Option (Nat × Bool)} {p : Bool} (hu : X.P.underlying t = some .bool) (hg : gd ops L g = some true) (hx : ev L x = some (.ct (.ex (.bool p)))) (hy : ev L y = some (.ct (.ex (.bool p)))) (hn : Nat.blt d X.n = true)
    (h : Ops X ops r ((d, .ct (.ex (.bool false))) :: L) B K) : Ops X ops (.cons ⟨some d, .binOp .neq t x y t2, t', pos, af, g⟩ k r) L B K :=
  XQ (s := .ct (.ex (.bool false))) hg rfl hn (fun a _ w hI => ⟨.bool false, fun w' _ => by
    show (do pure (Next.value (← (do eqGuard .neq t x y (a.eval x) (a.eval y); binOp .neq t (a.eval x) (a.eval y) : Sem Value))) : Sem Next).run X.P w' = _
    rw [hI.evx hx, hI.evx hy]
    refine X3 ?_
    have e1 : (eqGuard .neq t x y (.bool p) (.bool p)).run X.P w' = .ok () w' := rfl
    have e2 : (Op.equal t (.bool p) (.bool p)).run X.P w' = .ok (p == p) w' := Go.run_equalIn_bool' w' _ t p p hu
    have e3 : (binOp .neq t (.bool p) (.bool p)).run X.P w' = .ok (.bool false) w' := by
      show (do pure (.bool (!(← Op.equal t (.bool p) (.bool p)))) : Sem Value).run X.P w' = _
      simp [e2]
    simp [e1, e3], rfl⟩) h
end Go.Own
namespace Go.Proofs.YtcelmhkpcdhneaaGreat
open Go.Own Go.Limbs
attribute [local irreducible] St Ops Go.Own.Fin Ok OkB OkN OkT OkL OkF wpA wpR
theorem w_any {v : Value} (h : v.oneCell' = true) : ∀ S w u, (CT.ex v).p S w u → anyC.p S w u := fun S w u e => by
  have : u = v := e
  subst this; exact h
theorem sLss : SlcT Tryz.prog 39 23 1 24 (.slice none 0 0) := SlcT.of Tryz.underlying39 (by kernel_rfl) rfl (by decide)
abbrev zAt2 : Value := .agg #[.slice none 0 0, .slice none 0 0, .slice none 0 0, .slice none 0 0, .slice none 0 0, .slice none 0 0, .slice none 0 0, .slice none 0 0]
theorem aAt2 : ArrT Tryz.prog 46 31 2 4 zAt2 := ⟨Tryz.underlying46, by kernel_rfl, by kernel_rfl⟩
theorem zvAt2 : (Tryz.prog.info? 46).map (·.zero) = some (some zAt2) := by kernel_rfl
theorem szAt2 : (Tryz.prog.info? 46).map (·.size) = some 8 := by kernel_rfl
theorem lAt2 : LdN Tryz.prog 46 8 := LdN.of _ Tryz.underlying46 rfl (by kernel_rfl)
theorem sAt2 : SlcT Tryz.prog 47 46 8 192 zAt2 := SlcT.of Tryz.underlying47 (by kernel_rfl) rfl (by decide)
theorem sDiffs : SlcT Tryz.prog 50 33 2 48 (.agg #[.slice none 0 0, .slice none 0 0]) := SlcT.of Tryz.underlying50 (by kernel_rfl) rfl (by decide)
structure LL (n : Nat) (l : List Cl) : Prop where
  len : l.length ≤ n
  u : ∀ x ∈ l, U x
theorem LL.mono {n m : Nat} {l : List Cl} (h : LL n l) (k : n ≤ m) : LL m l := ⟨Nat.le_trans h.len k, h.u⟩
theorem LL.wo {n : Nat} {a : List Cl} (h : LL n a) (o : List Cl) : LL n (rwo a o) := ⟨Nat.le_trans (rwo_len a o) h.len, rwo_U h.u⟩
theorem sortC_from : ∀ (l out : List Cl), (∀ x ∈ sortC l out, x ∈ out ∨ x ∈ l) ∧ (sortC l out).length ≤ out.length + l.length
  | [], out => ⟨fun x h => .inl h, by simp [sortC]⟩
  | c :: l, out => by
    simp only [sortC]
    have hp := put_len out c
    split
    · obtain ⟨h1, h2⟩ := sortC_from l (put out c)
      refine ⟨fun x hx => ?_, by simp; omega⟩
      rcases h1 x hx with h | h
      · rcases put_mem h with h | h
        · exact .inl h
        · exact .inr (by simp [h])
      · exact .inr (List.mem_cons_of_mem _ h)
    · obtain ⟨h1, h2⟩ := sortC_from l out
      refine ⟨fun x hx => ?_, by simp; omega⟩
      rcases h1 x hx with h | h
      · exact .inl h
      · exact .inr (List.mem_cons_of_mem _ h)
theorem sortC_LL {n : Nat} {l : List Cl} (h : (l.length : Int) ≤ n ∧ ∀ c ∈ l, U c) : LL n (sortC l []) := by
  obtain ⟨h1, h2⟩ := sortC_from l []
  exact ⟨by simp at h2; omega, fun x hx => h.2 x ((h1 x hx).resolve_left (by simp))⟩
theorem putA_len (l out : List Cl) : (putA l out).length ≤ out.length + l.length := ordF_len _ l out
theorem apR_len (c g m : List Cl) : (apR c g m).1.length ≤ c.length + m.length := by
  unfold apR
  have h1 := putA_len m (rwo c g)
  have h2 := rwo_len c g
  split
  · split
    · split
      · show (putA m (rwo c g)).length ≤ _; omega
      · simp
    · simp
  · simp
theorem map_at {α : Type} {f : α → List CT} {l : List α} {j : Nat} (z : α) (h : j < l.length) : (l.map f)[((j : Nat) : Int).toNat]? = some (f (l.getD j z)) := by
  rw [Int.toNat_natCast, List.getElem?_map, List.getElem?_eq_getElem h, List.getD_eq_getElem?_getD, List.getElem?_eq_getElem h]; rfl
theorem rSame_refl (g m : List Cl) (h1 : g.length ≤ 1000) (h2 : m.length ≤ 1000) : Ok Tryz.prog 15 [dfC g m, dfC g m] (boolC true) := by
  have := rSame_gen g m g m h1 h2 h1 h2
  rwa [decide_eq_true rfl, decide_eq_true rfl] at this
abbrev yCs (y : List Cl × List Cl) : List CT := [clsC y.1, anyC, anyC, anyC, clsC y.2, anyC, anyC, anyC]
abbrev zCs (z : List Cl × List Cl) : List CT := [clsC z.1, clsC z.2]
set_option maxHeartbeats 16000000 in
theorem VersionsLists_ok (bs : List Int) (hb : ∀ b ∈ bs, 0 ≤ b ∧ b < 256) (raw : List Rs) (t : Int) (a b dg dm gg gm : List Cl) (hr : (raw.length : Int) ≤ 9223372036854775807) (ha : (a.length : Int) ≤ 9223372036854775807) (hb2 : (b.length : Int) ≤ 9223372036854775807)
    (h1 : (dg.length : Int) ≤ 1000000000000000000) (h2 : (dm.length : Int) ≤ 1000000000000000000) (h3 : (gg.length : Int) ≤ 1000000000000000000) (h4 : (gm.length : Int) ≤ 1000000000000000000)
    (ua : ∀ x ∈ a, U x) (ub : ∀ x ∈ b, U x) (u1 : ∀ x ∈ dg, U x) (u2 : ∀ x ∈ dm, U x) (u3 : ∀ x ∈ gg, U x) (u4 : ∀ x ∈ gm, U x) :
    Ok Tryz.prog 3 [bytesC bs, rssC raw, intC t, atX a, atX b, dfC dg dm, dfC gg gm] (boolC true) := by
  refine Ok.enter Tryz.func3 rfl _ Tryz.ntmps3 rfl ?_
  intro S w
  have hB : Bytes (bs.take 400) := ⟨fun b h => (hb b (List.mem_of_mem_take h)).1, fun b h => (hb b (List.mem_of_mem_take h)).2, by simp; omega⟩
  have hRoll := Roll_ok bs
  generalize bs.take 400 = B0 at hB hRoll
  (refine Qw (Qx fun K hK => ?_); refine Qf 0 rfl rfl rfl rfl rfl rfl rfl ?_; refine Qf 1 rfl rfl rfl rfl rfl rfl rfl ?_; refine Qf 2 rfl rfl rfl rfl rfl rfl rfl ?_; refine Qf 3 rfl rfl rfl rfl rfl rfl rfl ?_; refine Qy rfl rfl rfl ?_; refine Qv (hK _ _ (Qq (Qw (Qw ?_)))); clear hK K; refine Qx (fun K hK => ?_))
  refine Q3 goVawake Vawake_ok rfl rfl rfl rfl ?_
  (refine Qb rfl rfl rfl ?_; refine Qz rfl rfl rfl ?_; refine Qz rfl rfl rfl ?_)
  refine Qd rfl rfl (by with_reducible exact sRes.und) (List.length_map ..) rfl ?_
  (refine Qk igtr rfl rfl rfl rfl ?_; refine Q2 rfl rfl rfl rfl ?_; refine Qz rfl rfl rfl ?_)
  refine Q8 39 (p := (12 : Int) < raw.length) rfl (fun c1 => ?_) (fun c1 => ?_)
  · (refine Qj rfl rfl rfl ?_; refine Qj rfl rfl rfl ?_; refine Qj rfl rfl rfl ?_; refine Qj rfl rfl rfl ?_; refine QZ rfl rfl rfl rfl ?_; refine Qz rfl rfl rfl ?_; refine Qj rfl rfl rfl ?_; refine Qj rfl rfl rfl ?_; refine Qj rfl rfl rfl ?_; refine Qj rfl rfl rfl ?_; refine QZ rfl rfl rfl rfl ?_; refine Qz rfl rfl rfl ?_; refine Qj rfl rfl rfl ?_; refine Qj rfl rfl rfl ?_; refine Qj rfl rfl rfl ?_; refine Qj rfl rfl rfl ?_; refine Qj rfl rfl rfl ?_; refine Qj rfl rfl rfl ?_; refine Qj rfl rfl rfl ?_; refine Qj rfl rfl rfl ?_; refine Qj rfl rfl rfl ?_; refine Qj rfl rfl rfl ?_; refine Qj rfl rfl rfl ?_; refine Qj rfl rfl rfl ?_; refine Qj rfl rfl rfl ?_; refine Qj rfl rfl rfl ?_; refine Qj rfl rfl rfl ?_; refine Qj rfl rfl rfl ?_; refine QZ rfl rfl rfl rfl ?_; refine Qv (hK _ _ (Qq (Qc rfl (Qw ?_)))); clear hK K; refine Qx (fun K hK => ?_))
    refine Q3 goVawake Vawake_ok rfl rfl rfl rfl ?_
    (refine Qy rfl rfl rfl ?_; refine Qv (hK _ _ (Qq (Q0 (QV ?_)))); clear hK K)
    refine Q1 [_] rfl (QJ rfl QX) rfl rfl
  (refine Qu rfl rfl rfl (by with_reducible first | exact fK0 | exact fK1 | exact fK2 | exact fK3 | exact fK4 | exact fK5 | exact fK6 | exact fE0 | exact fE1 | exact fE2 | exact fE3 | exact fA0 | exact fD0 | exact fD1) rfl ?_; refine QQ rfl rfl rfl rfl rfl (by with_reducible first | exact lInt | exact QU | exact QW | exact QY | exact lIDs) rfl ?_; refine Qd rfl rfl (by with_reducible first | exact sClaims.und | exact sInts.und | exact sLists.und) (List.length_map ..) rfl ?_; refine Qk igtr rfl rfl rfl rfl ?_; refine Q2 rfl rfl rfl rfl ?_; refine Qz rfl rfl rfl ?_)
  refine Q8 45 (p := (8 : Int) < a.length) rfl (fun c2 => ?_) (fun c2 => ?_)
  · (refine Qj rfl rfl rfl ?_; refine Qj rfl rfl rfl ?_; refine Qj rfl rfl rfl ?_; refine Qj rfl rfl rfl ?_; refine QZ rfl rfl rfl rfl ?_; refine Qz rfl rfl rfl ?_; refine Qj rfl rfl rfl ?_; refine Qj rfl rfl rfl ?_; refine Qj rfl rfl rfl ?_; refine Qj rfl rfl rfl ?_; refine Qj rfl rfl rfl ?_; refine Qj rfl rfl rfl ?_; refine Qj rfl rfl rfl ?_; refine Qj rfl rfl rfl ?_; refine Qj rfl rfl rfl ?_; refine Qj rfl rfl rfl ?_; refine Qj rfl rfl rfl ?_; refine Qj rfl rfl rfl ?_; refine Qj rfl rfl rfl ?_; refine Qj rfl rfl rfl ?_; refine Qj rfl rfl rfl ?_; refine Qj rfl rfl rfl ?_; refine QZ rfl rfl rfl rfl ?_; refine Qv (hK _ _ (Qq (Qc rfl (Qw ?_)))); clear hK K; refine Qx (fun K hK => ?_))
    refine Q3 goVawake Vawake_ok rfl rfl rfl rfl ?_
    (refine Qy rfl rfl rfl ?_; refine Qv (hK _ _ (Qq (Q0 (QV ?_)))); clear hK K)
    refine Q1 [_] rfl (QJ rfl QX) rfl rfl
  (refine Qu rfl rfl rfl (by with_reducible first | exact fK0 | exact fK1 | exact fK2 | exact fK3 | exact fK4 | exact fK5 | exact fK6 | exact fE0 | exact fE1 | exact fE2 | exact fE3 | exact fA0 | exact fD0 | exact fD1) rfl ?_; refine QQ rfl rfl rfl rfl rfl (by with_reducible first | exact lInt | exact QU | exact QW | exact QY | exact lIDs) rfl ?_; refine Qd rfl rfl (by with_reducible first | exact sClaims.und | exact sInts.und | exact sLists.und) (List.length_map ..) rfl ?_; refine Qk igtr rfl rfl rfl rfl ?_; refine Q2 rfl rfl rfl rfl ?_; refine Qz rfl rfl rfl ?_)
  refine Q8 51 (p := (8 : Int) < b.length) rfl (fun c3 => ?_) (fun c3 => ?_)
  · (refine Qj rfl rfl rfl ?_; refine Qj rfl rfl rfl ?_; refine Qj rfl rfl rfl ?_; refine Qj rfl rfl rfl ?_; refine Qj rfl rfl rfl ?_; refine Qj rfl rfl rfl ?_; refine Qj rfl rfl rfl ?_; refine Qj rfl rfl rfl ?_; refine Qj rfl rfl rfl ?_; refine Qj rfl rfl rfl ?_; refine Qj rfl rfl rfl ?_; refine Qj rfl rfl rfl ?_; refine Qj rfl rfl rfl ?_; refine Qj rfl rfl rfl ?_; refine Qj rfl rfl rfl ?_; refine Qj rfl rfl rfl ?_; refine QZ rfl rfl rfl rfl ?_; refine Qv (hK _ _ (Qq (Qc rfl (Qw ?_)))); clear hK K; refine Qx (fun K hK => ?_))
    refine Q3 goVawake Vawake_ok rfl rfl rfl rfl ?_
    (refine Qy rfl rfl rfl ?_; refine Qv (hK _ _ (Qq (Q0 (QV ?_)))); clear hK K)
    refine Q1 [_] rfl (QJ rfl QX) rfl rfl
  (refine Qu rfl rfl rfl (by with_reducible first | exact fK0 | exact fK1 | exact fK2 | exact fK3 | exact fK4 | exact fK5 | exact fK6 | exact fE0 | exact fE1 | exact fE2 | exact fE3 | exact fA0 | exact fD0 | exact fD1) rfl ?_; refine QQ rfl rfl rfl rfl rfl (by with_reducible first | exact lInt | exact QU | exact QW | exact QY | exact lIDs) rfl ?_; refine Qd rfl rfl (by with_reducible first | exact sClaims.und | exact sInts.und | exact sLists.und) (List.length_map ..) rfl ?_; refine Qu rfl rfl rfl (by with_reducible first | exact fK0 | exact fK1 | exact fK2 | exact fK3 | exact fK4 | exact fK5 | exact fK6 | exact fE0 | exact fE1 | exact fE2 | exact fE3 | exact fA0 | exact fD0 | exact fD1) rfl ?_; refine QQ rfl rfl rfl rfl rfl (by with_reducible first | exact lInt | exact QU | exact QW | exact QY | exact lIDs) rfl ?_; refine Qd rfl rfl (by with_reducible first | exact sClaims.und | exact sInts.und | exact sLists.und) (List.length_map ..) rfl ?_; refine Qk (iadd (by omega) (by omega)) rfl rfl rfl rfl ?_; refine Qu rfl rfl rfl (by with_reducible first | exact fK0 | exact fK1 | exact fK2 | exact fK3 | exact fK4 | exact fK5 | exact fK6 | exact fE0 | exact fE1 | exact fE2 | exact fE3 | exact fA0 | exact fD0 | exact fD1) rfl ?_; refine QQ rfl rfl rfl rfl rfl (by with_reducible first | exact lInt | exact QU | exact QW | exact QY | exact lIDs) rfl ?_; refine Qd rfl rfl (by with_reducible first | exact sClaims.und | exact sInts.und | exact sLists.und) (List.length_map ..) rfl ?_; refine Qk (iadd (by omega) (by omega)) rfl rfl rfl rfl ?_; refine Qu rfl rfl rfl (by with_reducible first | exact fK0 | exact fK1 | exact fK2 | exact fK3 | exact fK4 | exact fK5 | exact fK6 | exact fE0 | exact fE1 | exact fE2 | exact fE3 | exact fA0 | exact fD0 | exact fD1) rfl ?_; refine QQ rfl rfl rfl rfl rfl (by with_reducible first | exact lInt | exact QU | exact QW | exact QY | exact lIDs) rfl ?_; refine Qd rfl rfl (by with_reducible first | exact sClaims.und | exact sInts.und | exact sLists.und) (List.length_map ..) rfl ?_; refine Qk (iadd (by omega) (by omega)) rfl rfl rfl rfl ?_; refine Qk igtr rfl rfl rfl rfl ?_; refine Q2 rfl rfl rfl rfl ?_; refine Qv (hK _ _ (Qq ?_)); clear hK K)
  refine Q7 rfl (fun c4 => ?_) (fun c4 => ?_)
  · (refine Qw (Qx fun K hK => ?_))
    refine Q3 goVawake Vawake_ok rfl rfl rfl rfl ?_
    (refine Qy rfl rfl rfl ?_; refine Qv (hK _ _ (Qq (Q0 (QV ?_)))); clear hK K)
    refine Q1 [_] rfl (QJ rfl QX) rfl rfl
  have la : LL 8 a := ⟨by omega, ua⟩
  have lb : LL 8 b := ⟨by omega, ub⟩
  have ld1 : LL 16 dg := ⟨by omega, u1⟩
  have ld2 : LL 16 dm := ⟨by omega, u2⟩
  have lg1 : LL 16 gg := ⟨by omega, u3⟩
  have lg2 : LL 16 gm := ⟨by omega, u4⟩
  have lraw : raw.length ≤ 40 := by omega
  clear hr ha hb2 h1 h2 h3 h4 ua ub u1 u2 u3 u4 c1 c2 c3 c4
  (refine Q5 (Qq (Qw (Qx fun K hK => ?_))); refine Qz rfl rfl rfl ?_)
  refine Ops.callN 4 goRoll hRoll rfl rfl rfl rfl rfl rfl ?_
  clear hRoll hb
  (refine Qy rfl rfl rfl ?_; refine Qv (hK _ _ (Qq (Qw ?_))); clear hK K; refine Qx (fun K hK => ?_); refine Qz rfl rfl rfl ?_)
  refine Q9 goResults (Results_ok B0 0 16 false (by decide) (by decide) hB) rfl rfl rfl rfl rfl (fun q hq => ?_)
  obtain ⟨x, p1⟩ := q
  dsimp only at hq ⊢
  (refine Qy rfl rfl rfl ?_; refine Qv (hK _ _ (Qq (Qw (Qw ?_)))); clear hK K; refine Qx (fun K hK => ?_); refine Qz rfl rfl rfl ?_; refine Qz rfl rfl rfl ?_; refine Qz rfl rfl rfl ?_; refine Qz rfl rfl rfl ?_; refine Qz rfl rfl rfl ?_)
  refine Q9 goOdd (Odd_ok B0 p1 x (by omega) hB) rfl rfl rfl rfl rfl (fun q hq2 => ?_)
  obtain ⟨x2, p2⟩ := q
  dsimp only at hq2 ⊢
  skip
  refine Q9 goShuffled (Shuffled_ok B0 p2 x2 (by omega) hB) rfl rfl rfl rfl rfl (fun q hq3 => ?_)
  obtain ⟨x3, p3⟩ := q
  dsimp only at hq3 ⊢
  refine Za (m := 3) (n := 1) (cs := [rssC x, rssC raw, rssC x3]) rfl rfl (by with_reducible exact sLss) (.one rfl rfl rfl rfl (.one rfl rfl rfl rfl (.one rfl rfl rfl rfl .nil))) (by decide) rfl ?_
  refine Qd rfl rfl (by with_reducible exact sLss.und) rfl rfl ?_
  have hxs : ∀ y ∈ [x, raw, x3], y.length ≤ 40 := by
    intro y hy
    simp only [List.mem_cons, List.not_mem_nil, or_false] at hy
    rcases hy with rfl | rfl | rfl <;> omega
  generalize hxl : [x, raw, x3] = xs at hxs
  have hxn : xs.length = 3 := by rw [← hxl]; rfl
  have hxc : ∀ c : CT, (CT.fr (sliceT 1 (chunk 1 3 [rssC x, rssC raw, rssC x3]))) = .fr (sliceT 1 (xs.map fun l => [rssC l])) := fun _ => by rw [← hxl]; rfl
  rw [hxc (intC 0)]
  clear hxc hxl hq hq2 hq3 lraw
  (refine Qz rfl rfl rfl ?_; refine Qv (hK _ _ (Qq (Q4 ?_))); clear hK K)
  refine Qt (α := Nat × Nat) (fun j => j.1 ≤ 3)
    (fun j => [(2, .ct (intC t)), (10, .own 0), (11, .own 1), (12, .own 2), (13, .own 3), (15, .own 4), (81, .ct (.fr (sliceT 1 (xs.map fun l => [rssC l])))), (82, .ct (intC 3)), (83, .ct (intC j.1))])
    (fun j => [(4, .box 82 (codes B0 j.2)), (3, .box 33 (dfCs gg gm)), (2, .box 33 (dfCs dg dm)), (1, .box 31 (atXs b)), (0, .box 31 (atXs a))]) (fun j => 3 - j.1) (0, p3) (Nat.zero_le _) (by exact QK rfl ⟨rfl, rfl, rfl, rfl, rfl, rfl, rfl, rfl, rfl, trivial⟩) ?_
  rintro ⟨j, p4⟩ hj
  dsimp only at hj ⊢
  (refine Qw (Qx fun K hK => ?_); refine Qk ilss rfl rfl rfl rfl ?_; refine Qv (hK _ _ (Qq (Qw ?_))); clear hK K)
  refine Q7 rfl (fun hlt => ?_) (fun hlt => ?_)
  · have hy := mem_getG (z := []) hxs (i := j) (by omega)
    (refine Q5 (Qq (Qw (Q4 (Qw (Qx fun K hK => ?_))))))
    refine Ql (j := j) rfl rfl rfl (by with_reducible exact sLss) (by omega) (map_at (f := fun l => [rssC l]) [] (by omega)) rfl ?_
    generalize xs.getD j [] = y at hy
    refine Zv rfl rfl rfl (by with_reducible exact Xx) rfl ?_
    (refine Qy rfl rfl rfl ?_; refine Qv (hK _ _ (Qq (Qw ?_))); clear hK K; refine Qx (fun K hK => ?_); refine Qz rfl rfl rfl ?_; refine Qz rfl rfl rfl ?_)
    refine Q9 goNext (Xu B0 p4 500 (by decide) (by decide) hB) rfl rfl rfl rfl rfl (fun q hq => ?_)
    obtain ⟨t2, p5⟩ := q
    dsimp only at hq ⊢
    refine Ops.litI [t, t2] rfl rfl (by with_reducible exact sInts) rfl ⟨rfl, rfl, rfl, rfl, trivial⟩ (by decide) rfl ?_
    generalize hts : ([t, t2] : List Int) = ts
    have htl : ts.length = 2 := by rw [← hts]; rfl
    clear hts hq
    (refine Qd rfl rfl (by with_reducible first | exact sClaims.und | exact sInts.und | exact sLists.und) (List.length_map ..) rfl ?_; refine Qz rfl rfl rfl ?_; refine Qv (hK _ _ (Qq (Q4 ?_))); clear hK K)
    refine Qt (α := Nat) (fun i => i ≤ 2)
      (fun i => [(2, .ct (intC t)), (10, .own 0), (11, .own 1), (12, .own 2), (13, .own 3), (15, .own 4), (81, .ct (.fr (sliceT 1 (xs.map fun l => [rssC l])))), (82, .ct (intC 3)), (83, .ct (intC j)), (18, .ct (rssC y)), (90, .ct (intsC ts)), (91, .ct (intC ts.length)), (92, .ct (intC i))])
      (fun _ => [(4, .box 82 (codes B0 p5)), (3, .box 33 (dfCs gg gm)), (2, .box 33 (dfCs dg dm)), (1, .box 31 (atXs b)), (0, .box 31 (atXs a))]) (fun i => 2 - i) 0 (by decide) (by exact QK rfl ⟨rfl, rfl, rfl, rfl, rfl, rfl, rfl, rfl, rfl, rfl, rfl, rfl, rfl, trivial⟩) ?_
    intro i hi
    dsimp only at hi ⊢
    (refine Qw (Qx fun K hK => ?_); refine Qk ilss rfl rfl rfl rfl ?_; refine Qv (hK _ _ (Qq (Qw ?_))); clear hK K)
    refine Q7 rfl (fun hlt2 => ?_) (fun hlt2 => ?_)
    · (refine Q5 (Qq (Qw (Q4 (Qw (Qx fun K hK => ?_))))); refine Ql rfl rfl rfl (by with_reducible exact sInts) (by omega) (ints_at (by omega) (by omega)) rfl ?_; refine Zv rfl rfl rfl (by with_reducible first | exact lInt | exact QY) rfl ?_; refine Qy rfl rfl rfl ?_; refine Qv (hK _ _ (Qq (Qw ?_))); clear hK K; refine Qx (fun K hK => ?_); refine Qz rfl rfl rfl ?_; refine Qz rfl rfl rfl ?_)
      generalize ts.getD (i : Int).toNat 0 = u
      have hK1 := VKnown_ok y u (by omega)
      have hK2 := rKnown_ok y u (by omega)
      rw [knows] at hK1
      have hKl : (ordF cmpR rs0 okR (y.filter fun r => decide (r.bk ≤ u)) []).length ≤ 100000 := by
        rw [← knows]
        have e1 := List.length_filter_le (fun r => !decide (u < r.bk)) (sd cmpR (y.filter okR))
        have e2 := sd_len cmpR (y.filter okR)
        have e3 := List.length_filter_le okR y
        omega
      generalize ordF cmpR rs0 okR (y.filter fun r => decide (r.bk ≤ u)) [] = kn at *
      have hS := SameRs_ok kn kn hKl hKl
      rw [decide_eq_true rfl] at hS
      refine Q3 goVKnown hK1 rfl rfl rfl rfl ?_
      (refine Qz rfl rfl rfl ?_; refine Qz rfl rfl rfl ?_)
      refine Q3 gorKnown hK2 rfl rfl rfl rfl ?_
      refine Q3 goSameRs hS rfl rfl rfl rfl ?_
      (refine Qb rfl rfl rfl ?_; refine Qv (hK _ _ (Qq (Qe rfl (Q5 (Qq ?_))))); clear hK K; refine Qx (fun K hK => ?_); refine Qk (iadd (by omega) (by omega)) rfl rfl rfl rfl ?_; refine Qz rfl rfl rfl ?_; refine Qv (hK _ _ (Qa ?_)); clear hK K)
      refine Qg (i + 1) (by omega) (by omega) (by exact QK rfl ⟨rfl, rfl, rfl, rfl, rfl, rfl, rfl, rfl, rfl, rfl, rfl, rfl, by simp only [Int.natCast_add]; rfl, trivial⟩)
    · (refine Qh (Qq (Qx fun K hK => ?_)); refine Qk (iadd (by omega) (by omega)) rfl rfl rfl rfl ?_; refine Qz rfl rfl rfl ?_; refine Qv (hK _ _ (Qa ?_)); clear hK K)
      refine Qg (j + 1, p5) (by dsimp only; omega) (by dsimp only; omega) (by exact QK rfl ⟨rfl, rfl, rfl, rfl, rfl, rfl, rfl, rfl, by simp only [Int.natCast_add]; rfl, trivial⟩)
  clear hxs hxn hlt hj
  (refine Qh (Qq (Qw (Qx fun K hK => ?_))); refine Qz rfl rfl rfl ?_)
  refine Q9 goClaims (Claims_ok B0 p4 6 (by decide) (by decide) hB) rfl rfl rfl rfl rfl (fun q hq => ?_)
  obtain ⟨p0, p5⟩ := q
  dsimp only at hq ⊢
  have lp : LL 6 p0 := ⟨by omega, hq.2⟩
  clear hq
  refine Xq rfl (by with_reducible exact bAtlas) rfl (.one rfl rfl rfl rfl .nil) rfl ?_
  (refine Qz rfl rfl rfl ?_)
  refine Q9 goClaims (Claims_ok B0 p5 6 (by decide) (by decide) hB) rfl rfl rfl rfl rfl (fun q hq => ?_)
  obtain ⟨c1, p6⟩ := q
  dsimp only at hq ⊢
  have hS1 := LSorted_ok c1 (by omega) hq.2
  have lq := sortC_LL (n := 6) hq
  generalize sortC c1 [] = q0 at hS1 lq
  clear hq
  refine Q3 goLSorted hS1 rfl rfl rfl rfl ?_
  clear hS1
  refine Xq rfl (by with_reducible exact bAtlas) rfl (.one rfl rfl rfl rfl .nil) rfl ?_
  refine Qo 5 rfl rfl (by with_reducible exact zvAtlas) rfl rfl rfl ?_
  refine Qo 6 rfl rfl (by with_reducible exact zvAtlas) rfl rfl rfl ?_
  (refine Qr 4 rfl rfl rfl rfl rfl (by with_reducible first | exact szAtlas | exact szEv) rfl rfl ?_; refine Qr 4 rfl rfl rfl rfl rfl (by with_reducible first | exact szAtlas | exact szEv) rfl rfl ?_; refine Qv (hK _ _ (Qq (Qw ?_))); clear hK K; refine Qx (fun K hK => ?_); refine Qz rfl rfl rfl ?_)
  refine Q9 goClaims (Claims_ok B0 p6 3 (by decide) (by decide) hB) rfl rfl rfl rfl rfl (fun q hq => ?_)
  obtain ⟨c2, p7⟩ := q
  dsimp only at hq ⊢
  have hS2 := LSorted_ok c2 (by omega) hq.2
  have lg := sortC_LL (n := 3) hq
  generalize sortC c2 [] = g1 at hS2 lg
  clear hq
  refine Q3 goLSorted hS2 rfl rfl rfl rfl ?_
  clear hS2
  (refine Qz rfl rfl rfl ?_)
  refine Q9 goClaims (Claims_ok B0 p7 3 (by decide) (by decide) hB) rfl rfl rfl rfl rfl (fun q hq => ?_)
  obtain ⟨c3, p8⟩ := q
  dsimp only at hq ⊢
  have hS3 := LSorted_ok c3 (by omega) hq.2
  have lm := sortC_LL (n := 3) hq
  generalize sortC c3 [] = m1 at hS3 lm
  clear hq
  refine Q3 goLSorted hS3 rfl rfl rfl rfl ?_
  clear hS3
  refine Xq rfl (by with_reducible exact bDiff) rfl (.one rfl rfl rfl rfl (.one rfl rfl rfl rfl .nil)) rfl ?_
  refine Qo 7 rfl rfl (by with_reducible exact zvDiff) rfl rfl rfl ?_
  refine Qr 2 rfl rfl rfl rfl rfl (by with_reducible exact szDiff) rfl rfl ?_
  refine Qv (hK _ _ ?_)
  clear hK K
  refine Qq ?_
  refine St.weakBox 5 (atXs p0) rfl ⟨w_same, w_any rfl, w_any rfl, w_any rfl, trivial⟩ ?_
  refine St.weakBox 6 (atXs q0) rfl ⟨w_same, w_any rfl, w_any rfl, w_any rfl, trivial⟩ ?_
  have hys : ∀ y ∈ [(a, b), (p0, q0), (q0, a)], LL 8 y.1 ∧ LL 8 y.2 := by
    intro y hy
    simp only [List.mem_cons, List.not_mem_nil, or_false] at hy
    rcases hy with rfl | rfl | rfl
    · exact ⟨la, lb⟩
    · exact ⟨lp.mono (by decide), lq.mono (by decide)⟩
    · exact ⟨lq.mono (by decide), la⟩
  (refine Qw (Qw (Qx fun K hK => ?_)); refine Qm (n := 4) rfl rfl rfl rfl rfl (by with_reducible first | exact Zm | exact lEv) rfl ?_; refine Qm (n := 4) rfl rfl rfl rfl rfl (by with_reducible first | exact Zm | exact lEv) rfl ?_)
  refine Zu (n := 4) [atXs a, atXs b] rfl (by with_reducible exact aAt2) rfl ⟨rfl, rfl, rfl, rfl, rfl, rfl, trivial⟩ rfl ?_
  (refine Qm (n := 4) rfl rfl rfl rfl rfl (by with_reducible first | exact Zm | exact lEv) rfl ?_; refine Qm (n := 4) rfl rfl rfl rfl rfl (by with_reducible first | exact Zm | exact lEv) rfl ?_)
  refine Zu (n := 4) [atXs p0, atXs q0] rfl (by with_reducible exact aAt2) rfl ⟨rfl, rfl, rfl, rfl, rfl, rfl, trivial⟩ rfl ?_
  (refine Qm (n := 4) rfl rfl rfl rfl rfl (by with_reducible first | exact Zm | exact lEv) rfl ?_; refine Qm (n := 4) rfl rfl rfl rfl rfl (by with_reducible first | exact Zm | exact lEv) rfl ?_)
  refine Zu (n := 4) [atXs q0, atXs a] rfl (by with_reducible exact aAt2) rfl ⟨rfl, rfl, rfl, rfl, rfl, rfl, trivial⟩ rfl ?_
  refine Za (m := 3) (n := 8) (cs := yCs (a, b) ++ yCs (p0, q0) ++ yCs (q0, a)) rfl rfl (by with_reducible exact sAt2) (.agg (n := 8) rfl rfl rfl rfl (.agg (n := 8) rfl rfl rfl rfl (.agg (n := 8) rfl rfl rfl rfl .nil))) (by decide) rfl ?_
  refine Qd rfl rfl (by with_reducible exact sAt2.und) rfl rfl ?_
  generalize hyl : [(a, b), (p0, q0), (q0, a)] = ys at hys
  have hyn : ys.length = 3 := by rw [← hyl]; rfl
  have hxc : (CT.fr (sliceT 8 (chunk 8 3 (yCs (a, b) ++ yCs (p0, q0) ++ yCs (q0, a))))) = .fr (sliceT 8 (ys.map yCs)) := by rw [← hyl]; rfl
  rw [hxc]
  clear hxc hyl la lb lp lq
  (refine Qz rfl rfl rfl ?_; refine Qv (hK _ _ (Qq (Q4 ?_))); clear hK K)
  refine Qt (α := Nat) (fun j => j ≤ 3) (fun j => [(12, .own 2), (13, .own 3), (23, .own 7), (129, .ct (.fr (sliceT 8 (ys.map yCs)))), (130, .ct (intC 3)), (131, .ct (intC j))]) (fun _ => [(7, .box 33 (dfCs g1 m1)), (6, .box 31 (atXs q0)), (5, .box 31 (atXs p0)), (4, .box 82 (codes B0 p8)), (3, .box 33 (dfCs gg gm)), (2, .box 33 (dfCs dg dm)), (1, .box 31 (atXs b)), (0, .box 31 (atXs a))]) (fun j => 3 - j) 0 (Nat.zero_le _) (by exact QK rfl ⟨rfl, rfl, rfl, rfl, rfl, rfl, trivial⟩) ?_
  intro j hj
  dsimp only at hj ⊢
  (refine Qw (Qx fun K hK => ?_); refine Qk ilss rfl rfl rfl rfl ?_; refine Qv (hK _ _ (Qq (Qw ?_))); clear hK K)
  refine Q7 rfl (fun hlt => ?_) (fun hlt => ?_)
  · have hy := mem_getG (z := ([], [])) hys (i := j) (by omega)
    (refine Q5 (Qq (Qw (Q4 (Qw (Qx fun K hK => ?_))))))
    refine Ql (j := j) rfl rfl rfl (by with_reducible exact sAt2) (by omega) (map_at (f := yCs) ([], []) (by omega)) rfl ?_
    generalize ys.getD j ([], []) = y at hy
    obtain ⟨y1, y2⟩ := y
    obtain ⟨l1, l2⟩ := hy
    dsimp only at l1 l2
    have hV := VCmp_gen y1 y2 (by have := l1.len; omega) (by have := l2.len; omega)
    rw [cmp_eq, cmp_eq] at hV
    have hR := rCompare_gen y1 y2 (by have := l1.len; omega) (by have := l2.len; omega) l1.u l2.u
    have l3 := l1.wo y2
    have l4 := l2.wo y1
    generalize rwo y1 y2 = r1 at *
    generalize rwo y2 y1 = r2 at *
    have hS := rSame_refl r1 r2 (by have := l3.len; omega) (by have := l4.len; omega)
    refine Qs (n := 8) rfl rfl rfl (by with_reducible exact lAt2) rfl rfl ?_
    refine Qo 8 rfl rfl (by with_reducible exact zvAt2) rfl rfl rfl ?_
    refine Qr 8 rfl rfl rfl rfl rfl (by with_reducible exact szAt2) rfl rfl ?_
    (refine Qv (hK _ _ (Qq (Qw (Qw ?_)))); clear hK K)
    refine Qp (by with_reducible exact mixed) 12 (.p 0 (.p 2 (.p 5 (.p 7 (.f 1 (.f 3 (.f 6 (.f 8 (.m 4 (.m 9 (.m 10 (.p 11 .done)))))))))))) (by kernel_rfl) (fun K hK => ?_)
    refine Xf (j := 0) rfl rfl rfl rfl (by with_reducible exact aAt2) (by decide) (by decide) rfl ?_
    refine Xf (j := 1) rfl rfl rfl rfl (by with_reducible exact aAt2) (by decide) (by decide) rfl ?_
    refine Xf (j := 0) rfl rfl rfl rfl (by with_reducible exact aAt2) (by decide) (by decide) rfl ?_
    refine Xf (j := 1) rfl rfl rfl rfl (by with_reducible exact aAt2) (by decide) (by decide) rfl ?_
    refine Zn (n := 4) rfl rfl rfl rfl (Nat.le_of_ble_eq_true rfl) (by with_reducible exact Zm) rfl ?_
    refine Zn (n := 4) rfl rfl rfl rfl (Nat.le_of_ble_eq_true rfl) (by with_reducible exact Zm) rfl ?_
    refine Zn (n := 4) rfl rfl rfl rfl (Nat.le_of_ble_eq_true rfl) (by with_reducible exact Zm) rfl ?_
    refine Zn (n := 4) rfl rfl rfl rfl (Nat.le_of_ble_eq_true rfl) (by with_reducible exact Zm) rfl ?_
    refine Q3 goVCmp hV rfl rfl rfl rfl ?_
    refine Q3 gorCompare hR rfl rfl rfl rfl ?_
    refine Q3 gorSame hS rfl rfl rfl rfl ?_
    (refine Qb rfl rfl rfl ?_; refine Qv (hK _ _ (Qq (Qe rfl (Q5 (Qq (Qw ?_)))))); clear hK K)
    refine Qp (by with_reducible exact mixed) 10 (.p 2 (.p 4 (.p 9 (.f 0 (.f 1 (.f 3 (.f 5 (.m 6 (.m 7 (.p 8 .done)))))))))) (by kernel_rfl) (fun K hK => ?_)
    refine Xf (j := 0) rfl rfl rfl rfl (by with_reducible exact aAt2) (by decide) (by decide) rfl ?_
    refine Xf (j := 1) rfl rfl rfl rfl (by with_reducible exact aAt2) (by decide) (by decide) rfl ?_
    refine Qz rfl rfl rfl ?_
    refine Qm (n := 2) rfl rfl rfl rfl rfl (by with_reducible exact Zz) rfl ?_
    refine Qm (n := 2) rfl rfl rfl rfl rfl (by with_reducible exact Zz) rfl ?_
    refine Zn (n := 4) rfl rfl rfl rfl (Nat.le_of_ble_eq_true rfl) (by with_reducible exact Zm) rfl ?_
    refine Zn (n := 4) rfl rfl rfl rfl (Nat.le_of_ble_eq_true rfl) (by with_reducible exact Zm) rfl ?_
    refine Q3 gorCompare hR rfl rfl rfl rfl ?_
    refine Za (m := 3) (n := 2) (cs := zCs (dg, dm) ++ zCs (g1, m1) ++ zCs (r1, r2)) rfl rfl (by with_reducible exact sDiffs) (.agg (n := 2) rfl rfl rfl rfl (.agg (n := 2) rfl rfl rfl rfl (.agg (n := 2) rfl rfl rfl rfl .nil))) (by decide) rfl ?_
    refine Qd rfl rfl (by with_reducible exact sDiffs.und) rfl rfl ?_
    have hzs : ∀ z ∈ [(dg, dm), (g1, m1), (r1, r2)], LL 16 z.1 ∧ LL 16 z.2 := by
      intro z hz
      simp only [List.mem_cons, List.not_mem_nil, or_false] at hz
      rcases hz with rfl | rfl | rfl
      · exact ⟨ld1, ld2⟩
      · exact ⟨lg.mono (by decide), lm.mono (by decide)⟩
      · exact ⟨l3.mono (by decide), l4.mono (by decide)⟩
    generalize hzl : [(dg, dm), (g1, m1), (r1, r2)] = zs at hzs
    have hzn : zs.length = 3 := by rw [← hzl]; rfl
    have hxc : (CT.fr (sliceT 2 (chunk 2 3 (zCs (dg, dm) ++ zCs (g1, m1) ++ zCs (r1, r2))))) = .fr (sliceT 2 (zs.map zCs)) := by rw [← hzl]; rfl
    rw [hxc]
    clear hxc hzl hV hR hS l3 l4
    (refine Qv (hK _ _ (Qq (Q4 ?_))); clear hK K)
    refine Qt (α := Nat) (fun i => i ≤ 3) (fun i => [(12, .own 2), (13, .own 3), (23, .own 7), (129, .ct (.fr (sliceT 8 (ys.map yCs)))), (130, .ct (intC 3)), (131, .ct (intC j)), (25, .own 8), (154, .ct (.fr (sliceT 2 (zs.map zCs)))), (155, .ct (intC 3)), (156, .ct (intC i))]) (fun _ => [(8, .box 46 (yCs (y1, y2))), (7, .box 33 (dfCs g1 m1)), (6, .box 31 (atXs q0)), (5, .box 31 (atXs p0)), (4, .box 82 (codes B0 p8)), (3, .box 33 (dfCs gg gm)), (2, .box 33 (dfCs dg dm)), (1, .box 31 (atXs b)), (0, .box 31 (atXs a))]) (fun i => 3 - i) 0 (Nat.zero_le _) (by exact QK rfl ⟨rfl, rfl, rfl, rfl, rfl, rfl, rfl, rfl, rfl, rfl, trivial⟩) ?_
    intro i hi
    dsimp only at hi ⊢
    (refine Qw (Qx fun K hK => ?_); refine Qk ilss rfl rfl rfl rfl ?_; refine Qv (hK _ _ (Qq (Qw ?_))); clear hK K)
    refine Q7 rfl (fun hlt2 => ?_) (fun hlt2 => ?_)
    · have hz := mem_getG (z := ([], [])) hzs (i := i) (by omega)
      (refine Q5 (Qq (Qw (Q4 (Qw (Qx fun K hK => ?_))))))
      refine Ql (j := i) rfl rfl rfl (by with_reducible exact sDiffs) (by omega) (map_at (f := zCs) ([], []) (by omega)) rfl ?_
      generalize zs.getD i ([], []) = z at hz
      obtain ⟨z1, z2⟩ := z
      obtain ⟨k1, k2⟩ := hz
      dsimp only at k1 k2
      have e1 := k1.len
      have e2 := k2.len
      have e3 := l1.len
      have e4 := ld1.len
      have e5 := ld2.len
      have e6 := lg1.len
      have e7 := lg2.len
      have hA := Apply_gen y1 z1 z2 (by omega) (by omega) (by omega)
      have hAr := rApply_gen y1 z1 z2 (by omega) (by omega) (by omega) l1.u k1.u k2.u
      have hAl := apR_len y1 z1 z2
      rw [apply_eq] at hA
      generalize apR y1 z1 z2 = ap at *
      obtain ⟨n1, er⟩ := ap
      dsimp only at hA hAr hAl
      have hSC := SameClaims_refl n1 (by omega)
      have hI := Inv_ok z1 z2 (by omega) (by omega)
      have hIr := rInv_ok z1 z2 (by omega) (by omega)
      have hIs := rSame_refl z2 z1 (by omega) (by omega)
      have hJ := Join_gen z1 z2 gg gm (by omega) (by omega) (by omega) (by omega)
      have hJr := rJoin_gen z1 z2 gg gm (by omega) (by omega) (by omega) (by omega) k1.u k2.u lg1.u lg2.u
      rw [join_eq, join_eq] at hJ
      have j1 : (bothR z1 gm gg z2).length ≤ 1000 := by
        have := putA_len (rwo gg z2) (rwo z1 gm)
        have := rwo_len gg z2
        have := rwo_len z1 gm
        unfold bothR; omega
      have j2 : (bothR z2 gg gm z1).length ≤ 1000 := by
        have := putA_len (rwo gm z1) (rwo z2 gg)
        have := rwo_len gm z1
        have := rwo_len z2 gg
        unfold bothR; omega
      have hJs := rSame_refl _ _ j1 j2
      generalize bothR z1 gm gg z2 = w1 at *
      generalize bothR z2 gg gm z1 = w2 at *
      have hD := VSame_gen z1 z2 dg dm (by omega) (by omega) (by omega) (by omega)
      have hDr := rSame_gen z1 z2 dg dm (by omega) (by omega) (by omega) (by omega)
      generalize (decide (z1 = dg) && decide (z2 = dm)) = bb at *
      clear e1 e2 e3 e4 e5 e6 e7 hAl j1 j2
      refine Qs (n := 2) rfl rfl rfl (by with_reducible exact Zz) rfl rfl ?_
      refine Qo 9 rfl rfl (by with_reducible exact zvDiff) rfl rfl rfl ?_
      refine Qr 2 rfl rfl rfl rfl rfl (by with_reducible exact szDiff) rfl rfl ?_
      (refine Qv (hK _ _ (Qq (Qw ?_))); clear hK K; refine Qx (fun K hK => ?_))
      refine Xf (j := 0) rfl rfl rfl rfl (by with_reducible exact aAt2) (by decide) (by decide) rfl ?_
      refine XV rfl rfl (by with_reducible exact fA0) rfl ?_
      (refine QQ rfl rfl rfl rfl rfl (by with_reducible first | exact lInt | exact QU | exact QW | exact QY | exact lIDs) rfl ?_; refine Qm (n := 2) rfl rfl rfl rfl rfl (by with_reducible exact Zz) rfl ?_)
      refine Q3 goApply hA rfl rfl rfl rfl ?_
      (refine Qz rfl rfl rfl ?_; refine Yx rfl rfl rfl rfl ?_; refine Yx rfl rfl rfl rfl ?_; refine Qy rfl rfl rfl ?_; refine Qy rfl rfl rfl ?_; refine Qv (hK _ _ (Qq (Qw ?_))); clear hK K; refine Qx (fun K hK => ?_))
      refine Xf (j := 0) rfl rfl rfl rfl (by with_reducible exact aAt2) (by decide) (by decide) rfl ?_
      refine XV rfl rfl (by with_reducible exact fA0) rfl ?_
      (refine QQ rfl rfl rfl rfl rfl (by with_reducible first | exact lInt | exact QU | exact QW | exact QY | exact lIDs) rfl ?_; refine Qm (n := 2) rfl rfl rfl rfl rfl (by with_reducible exact Zz) rfl ?_)
      refine Q3 gorApply hAr rfl rfl rfl rfl ?_
      (refine Qz rfl rfl rfl ?_; refine Yx rfl rfl rfl rfl ?_; refine Yx rfl rfl rfl rfl ?_; refine Qy rfl rfl rfl ?_; refine Qy rfl rfl rfl ?_; refine Qv (hK _ _ (Qq (Qw ?_))); clear hK K)
      refine Qp (by with_reducible exact mixed) 36 (.p 0 (.p 1 (.p 2 (.p 3 (.p 4 (.p 5 (.m 6 (.p 7 (.p 8 (.p 9 (.f 10 (.f 12 (.m 11 (.m 13 (.m 14 (.p 15 (.p 16 (.p 17 (.f 18 (.f 19 (.f 21 (.f 22 (.m 20 (.m 23 (.m 24 (.p 25 (.p 26 (.p 27 (.f 28 (.f 29 (.f 31 (.f 32 (.m 30 (.m 33 (.p 34 (.p 35 .done)))))))))))))))))))))))))))))))))))) (by kernel_rfl) (fun K hK => ?_)
      (refine Qz rfl rfl rfl ?_; refine Qz rfl rfl rfl ?_; refine Qk ineq rfl rfl rfl rfl ?_; refine Qz rfl rfl rfl ?_)
      refine Q8 179 rfl (fun h => absurd rfl h) (fun _ => ?_)
      (refine Qz rfl rfl rfl ?_; refine Qz rfl rfl rfl ?_)
      refine Q3 goSameClaims hSC rfl rfl rfl rfl ?_
      (refine Qb rfl rfl rfl ?_; refine Q2 rfl rfl rfl rfl ?_; refine Qz rfl rfl rfl ?_; refine Qm (n := 2) rfl rfl rfl rfl rfl (by with_reducible exact Zz) rfl ?_; refine Qm (n := 2) rfl rfl rfl rfl rfl (by with_reducible exact Zz) rfl ?_)
      refine Q3 goInv hI rfl rfl rfl rfl ?_
      refine Q3 gorInv hIr rfl rfl rfl rfl ?_
      refine Q3 gorSame hIs rfl rfl rfl rfl ?_
      (refine Qb rfl rfl rfl ?_; refine Q2 rfl rfl rfl rfl ?_; refine Qz rfl rfl rfl ?_; refine Qm (n := 2) rfl rfl rfl rfl rfl (by with_reducible exact Zz) rfl ?_; refine Qm (n := 2) rfl rfl rfl rfl rfl (by with_reducible exact Zz) rfl ?_; refine Qm (n := 2) rfl rfl rfl rfl rfl (by with_reducible exact Zz) rfl ?_; refine Qm (n := 2) rfl rfl rfl rfl rfl (by with_reducible exact Zz) rfl ?_)
      refine Q3 goJoin hJ rfl rfl rfl rfl ?_
      refine Q3 gorJoin hJr rfl rfl rfl rfl ?_
      refine Q3 gorSame hJs rfl rfl rfl rfl ?_
      (refine Qb rfl rfl rfl ?_; refine Q2 rfl rfl rfl rfl ?_; refine Qz rfl rfl rfl ?_; refine Qm (n := 2) rfl rfl rfl rfl rfl (by with_reducible exact Zz) rfl ?_; refine Qm (n := 2) rfl rfl rfl rfl rfl (by with_reducible exact Zz) rfl ?_; refine Qm (n := 2) rfl rfl rfl rfl rfl (by with_reducible exact Zz) rfl ?_; refine Qm (n := 2) rfl rfl rfl rfl rfl (by with_reducible exact Zz) rfl ?_)
      refine Q3 goSame hD rfl rfl rfl rfl ?_
      refine Q3 gorSame hDr rfl rfl rfl rfl ?_
      skip
      refine Ops.neBs Tryz.underlying4 rfl rfl rfl rfl ?_
      (refine Q2 rfl rfl rfl rfl ?_; refine Qv (hK _ _ (Qq (Qe rfl (Q5 (Qq ?_))))); clear hK K; refine Qx (fun K hK => ?_); refine Qk (iadd (by omega) (by omega)) rfl rfl rfl rfl ?_; refine Qz rfl rfl rfl ?_; refine Qv (hK _ _ (Qa ?_)); clear hK K)
      refine X7 9 ?_
      refine Qg (i + 1) (by omega) (by omega) (by exact QK rfl ⟨rfl, rfl, rfl, rfl, rfl, rfl, rfl, rfl, rfl, by simp only [Int.natCast_add]; rfl, trivial⟩)
    · (refine Qh (Qq (Qx fun K hK => ?_)); refine Qk (iadd (by omega) (by omega)) rfl rfl rfl rfl ?_; refine Qz rfl rfl rfl ?_; refine Qv (hK _ _ (Qa ?_)); clear hK K)
      refine X7 8 ?_
      refine Qg (j + 1) (by omega) (by omega) (by exact QK rfl ⟨rfl, rfl, rfl, rfl, rfl, by simp only [Int.natCast_add]; rfl, trivial⟩)
  · (refine Qh (Qq (Qw (Qx fun K hK => ?_))); refine Qy rfl rfl rfl ?_; refine Qv (hK _ _ (Qq (Q0 ?_))); clear hK K)
    refine Q1 [_] rfl (QJ rfl QX) rfl rfl
end Go.Proofs.YtcelmhkpcdhneaaGreat
namespace Go.Proofs.YtcelmhkpcdhneaaGreat
open Go.Own Go.Limbs
section
variable {H : Type} {enc : TypeId × Value → H} {P : Program} {w : World} {base : Nat} {spare : Nat → Bool} {held : Bool}
theorem slice_inS {α : Type} {t e : TypeId} {n fuel : Nat} {cs0 : List Value} {x : DataW H × List MemPlace} (ht : P.underlying t = some (.slice e)) (hn : P.cellsOf e = n) (hn0 : 0 < n) (f : α → List CT) (hf : ∀ z, (f z).length = n) (good : α → Prop)
    (hE : ∀ m cs y, DataW.trod enc P w base spare held m e cs = some y → cs.length = n → ∃ z, cells (fun _ => True) w (f z) cs ∧ good z)
    (h : DataW.trod enc P w base spare held fuel t cs0 = some x) : ∃ (v : Value) (zs : List α), cs0 = [v] ∧ zs.length ≤ 9223372036854775807 ∧ (∀ z ∈ zs, good z) ∧ (CT.fr (sliceT n (zs.map f))).p (fun _ => True) w v ∧ ∀ N, (∀ q ∈ x.1.weights P t, q ≤ N) → zs.length * P.bytesOf e ≤ N := by
  rcases DataW.trod_slice ht h with ⟨h0, _⟩ | ⟨a, len, cap, elems, rest, m, _, rfl, rfl, _, hl, hm, hlen, hel, _⟩
  · exact ⟨_, [], h0, Nat.zero_le _, (fun z hz => nomatch hz), nil_is n _ w, fun N _ => by simp⟩
  rw [hn] at hel
  have key : ∀ k, k ≤ len → ∃ (zs : List α) (vs : List Value), zs.length = k ∧ (∀ z ∈ zs, good z) ∧ cells (fun _ => True) w (zs.map f).flatten vs ∧ vs.length = k * n ∧ ∀ i u, vs[i]? = some u → w.cell? (a.add i) = some u := by
    intro k
    induction k with
    | zero => intro _; exact ⟨[], [], rfl, (fun z hz => nomatch hz), trivial, (Nat.zero_mul n).symm, fun i u hu => by simp at hu⟩
    | succ k ih =>
      intro hk
      obtain ⟨zs, vs, e1, e2, e3, e4, e5⟩ := ih (by omega)
      have h1 := hel k (by omega)
      rw [List.getElem?_eq_getElem (show k < elems.length by omega), Option.bind_eq_some_iff] at h1
      obtain ⟨cs, h2, h3⟩ := h1
      obtain ⟨_, h4, h5⟩ := World.cells?_some h2
      obtain ⟨z, h6, h7⟩ := hE _ _ _ h3 h4
      refine ⟨zs ++ [z], vs ++ cs, by simp [e1], ?_, ?_, by rw [List.length_append, e4, h4, Nat.succ_mul], ?_⟩
      · intro y hy
        rcases List.mem_append.1 hy with hy | hy
        · exact e2 y hy
        · rw [List.mem_singleton.1 hy]; exact h7
      · rw [List.map_append, List.flatten_append]
        refine cells.append e3 ?_
        simpa using h6
      · intro i u hu
        rcases Nat.lt_or_ge i (k * n) with hi | hi
        · rw [List.getElem?_append_left (by omega)] at hu
          exact e5 i u hu
        · rw [List.getElem?_append_right (by omega), e4] at hu
          have hlt : i - k * n < n := by
            have := (List.getElem?_eq_some_iff.1 hu).1
            omega
          have := h5 (i - k * n) hlt
          rw [Addr.add_add, show k * n + (i - k * n) = i by omega] at this
          rw [this, hu]
  obtain ⟨zs, vs, e1, e2, e3, e4, e5⟩ := key len (Nat.le_refl _)
  have hmx : maxLen = 9223372036854775807 := by decide
  have hwt : ∀ N, (∀ q ∈ (DataW.slice (elems.map (·.1)) (rest.map (·.1))).weights P t, q ≤ N) → zs.length * P.bytesOf e ≤ N := fun N hN => by
    have h9 := hN (((elems.map (·.1)).length + (rest.map (·.1)).length) * P.bytesOf e) (by simp [DataW.weights, ht])
    refine Nat.le_trans (Nat.mul_le_mul_right _ ?_) h9
    rw [e1, List.length_map, List.length_map]; omega
  refine ⟨_, zs, rfl, by omega, e2, ⟨some a, cap, by rw [List.length_map, e1], by rw [List.length_map, e1]; exact hl, hm, fun y hy => by obtain ⟨z, _, rfl⟩ := List.mem_map.1 hy; exact hf z, fun hne => ?_⟩, hwt⟩
  have hpos : 0 < len := by
    rcases Nat.eq_zero_or_pos len with h0 | h0
    · rw [h0] at e1; rw [List.length_eq_zero_iff.1 e1] at hne; exact absurd rfl hne
    · exact h0
  have hvl : 0 < vs.length := by rw [e4]; exact Nat.mul_pos hpos hn0
  have h0 := e5 0 _ (List.getElem?_eq_getElem hvl)
  obtain ⟨b, o, sp⟩ := a
  have hsp : sp = none ∧ b < w.heap.size := by
    simp only [Addr.add, if_true, World.cell?] at h0
    cases e : w.heap[b]? with
    | none => rw [e] at h0; cases h0
    | some ob =>
      rw [e] at h0
      cases ob with
      | cells c t r =>
        refine ⟨?_, Zs e⟩
        cases sp with
        | none => rfl
        | some q => simp at h0
      | _ => cases h0
  obtain ⟨rfl, hb⟩ := hsp
  refine ⟨b, o, rfl, trivial, hb, vs, e3, fun i u hu => ?_⟩
  have h1 := e5 i u hu
  have h3 : (⟨b, o, none⟩ : Addr).add i = ⟨b, o + i, none⟩ := by
    unfold Addr.add
    split
    · rename_i h; subst h; rfl
    · rfl
  rw [h3] at h1
  exact h1
theorem wf_u8 {a : Int} (h : (Lit.int .u8 a).wf = true) : 0 ≤ a ∧ a < 256 := by
  simp only [Lit.wf, Bool.and_eq_true, decide_eq_true_eq] at h
  exact ⟨h.1, by have := h.2; rw [show IntKind.u8.max = 255 from rfl] at this; omega⟩
theorem wf_u32 {a : Int} (h : (Lit.int .u32 a).wf = true) : 0 ≤ a ∧ a < 4294967296 := by
  simp only [Lit.wf, Bool.and_eq_true, decide_eq_true_eq] at h
  exact ⟨h.1, by have := h.2; rw [show IntKind.u32.max = 4294967295 from rfl] at this; omega⟩
theorem bytes_inS {t e : TypeId} {fuel : Nat} {cs0 : List Value} {x : DataW H × List MemPlace} (ht : P.underlying t = some (.slice e)) (he : P.underlying e = some (.int .u8)) (hn : P.cellsOf e = 1)
    (h : DataW.trod enc P w base spare held fuel t cs0 = some x) : ∃ (v : Value) (zs : List Int), cs0 = [v] ∧ (∀ z ∈ zs, 0 ≤ z ∧ z < 256) ∧ (bytesC zs).p (fun _ => True) w v := by
  obtain ⟨v, zs, h1, _, h2, h3, _⟩ := slice_inS ht hn (by decide) (fun z : Int => [CT.ex (Value.int .u8 z)]) (fun _ => rfl) (fun z => 0 ≤ z ∧ z < 256) (fun m cs y hy _ => by
    obtain ⟨z, rfl, _, hw⟩ := DataW.trod_int he hy
    exact ⟨z, ⟨rfl, trivial⟩, wf_u8 hw⟩) h
  exact ⟨v, zs, h1, h2, h3⟩
end
theorem XW {α : Type} {n : Nat} (cs : List α) (h : cs.length = n + 1) : ∃ a r, cs = a :: r ∧ r.length = n := by
  cases cs with
  | nil => simp at h
  | cons a r => exact ⟨a, r, rfl, by simpa using h⟩
theorem agg_inS {P : Program} {w : World} {r : Reach} {b0 : Nat} {t : TypeId} {fs : Array Field} {v : Value} (hu : P.underlying t = some (.struct fs)) (h : Value.okWide P w r b0 t v) : ∃ cs : List Value, v = .agg cs.toArray := by
  simp only [Value.okWide, hu] at h
  obtain ⟨cs, h1, _, _⟩ := h
  exact ⟨cs.toList, by simpa using h1⟩
theorem adr_in {n : Int} (h : (Lit.int .u32 n).wf = true) : ∃ a : Fin 4294967296, Value.int .u32 n = .int .u32 (a.val : Int) := by
  have := wf_u32 h
  exact ⟨⟨n.toNat, by omega⟩, by show _ = Value.int .u32 ((n.toNat : Nat) : Int); rw [Int.toNat_of_nonneg this.1]⟩
section
variable {H : Type} {enc : TypeId × Value → H} {w : World} {base : Nat} {spare : Nat → Bool} {held : Bool} {fuel : Nat} {cs : List Value} {x : DataW H × List MemPlace}
theorem ans_cells (hy : DataW.trod enc Tryz.prog w base spare held fuel 75 cs = some x) : ∃ (f : Fin 4294967296) (k c l i q : Int), cs = [.int .u32 (f.val : Int), .int .i64 k, .int .i64 c, .int .i64 l, .int .i64 i, .int .i64 q] := by
  obtain ⟨xs, k, rfl, rfl, hl, h2, h3⟩ := DataW.trod_struct Tryz.underlying75 hy
  have hl : cs.length = 6 := hl.trans (by kernel_rfl)
  have f0 := h3 0 _ rfl
  rw [List.getElem?_eq_getElem (show 0 < xs.length by rw [h2]; decide)] at f0
  have f1 := h3 1 _ rfl
  rw [List.getElem?_eq_getElem (show 1 < xs.length by rw [h2]; decide)] at f1
  have f2 := h3 2 _ rfl
  rw [List.getElem?_eq_getElem (show 2 < xs.length by rw [h2]; decide)] at f2
  have f3 := h3 3 _ rfl
  rw [List.getElem?_eq_getElem (show 3 < xs.length by rw [h2]; decide)] at f3
  have f4 := h3 4 _ rfl
  rw [List.getElem?_eq_getElem (show 4 < xs.length by rw [h2]; decide)] at f4
  have f5 := h3 5 _ rfl
  rw [List.getElem?_eq_getElem (show 5 < xs.length by rw [h2]; decide)] at f5
  obtain ⟨c0, r0, rfl, hl0⟩ := XW (n := 5) cs hl
  obtain ⟨c1, r1, rfl, hl1⟩ := XW (n := 4) r0 hl0
  obtain ⟨c2, r2, rfl, hl2⟩ := XW (n := 3) r1 hl1
  obtain ⟨c3, r3, rfl, hl3⟩ := XW (n := 2) r2 hl2
  obtain ⟨c4, r4, rfl, hl4⟩ := XW (n := 1) r3 hl3
  obtain ⟨c5, r5, rfl, hl5⟩ := XW (n := 0) r4 hl4
  obtain rfl := List.eq_nil_of_length_eq_zero hl5
  rw [show Tryz.prog.cellsOf _ = 1 from by kernel_rfl] at f0 f1 f2 f3 f4 f5
  obtain ⟨z0, e0, _, w0⟩ := DataW.trod_int Tryz.underlying59 f0
  injection e0 with e0 _
  have e0 : c0 = .int _ z0 := e0
  subst e0
  obtain ⟨z1, e1, _, w1⟩ := DataW.trod_int Tryz.underlying3 f1
  injection e1 with e1 _
  have e1 : c1 = .int _ z1 := e1
  subst e1
  obtain ⟨z2, e2, _, w2⟩ := DataW.trod_int Tryz.underlying3 f2
  injection e2 with e2 _
  have e2 : c2 = .int _ z2 := e2
  subst e2
  obtain ⟨z3, e3, _, w3⟩ := DataW.trod_int Tryz.underlying3 f3
  injection e3 with e3 _
  have e3 : c3 = .int _ z3 := e3
  subst e3
  obtain ⟨z4, e4, _, w4⟩ := DataW.trod_int Tryz.underlying3 f4
  injection e4 with e4 _
  have e4 : c4 = .int _ z4 := e4
  subst e4
  obtain ⟨z5, e5, _, w5⟩ := DataW.trod_int Tryz.underlying3 f5
  injection e5 with e5 _
  have e5 : c5 = .int _ z5 := e5
  subst e5
  obtain ⟨a, ha⟩ := adr_in w0
  exact ⟨a, z1, z2, z3, z4, z5, by rw [ha]⟩
theorem res_cells (hy : DataW.trod enc Tryz.prog w base spare held fuel 77 cs = some x) : ∃ r : Rs, cells (fun _ => True) w (rsCs r) cs := by
  obtain ⟨xs, k, rfl, rfl, hl, h2, h3⟩ := DataW.trod_struct Tryz.underlying77 hy
  have hl : cs.length = 17 := hl.trans (by kernel_rfl)
  have f0 := h3 0 _ rfl
  rw [List.getElem?_eq_getElem (show 0 < xs.length by rw [h2]; decide)] at f0
  have f1 := h3 1 _ rfl
  rw [List.getElem?_eq_getElem (show 1 < xs.length by rw [h2]; decide)] at f1
  have f2 := h3 2 _ rfl
  rw [List.getElem?_eq_getElem (show 2 < xs.length by rw [h2]; decide)] at f2
  have f3 := h3 3 _ rfl
  rw [List.getElem?_eq_getElem (show 3 < xs.length by rw [h2]; decide)] at f3
  have f4 := h3 4 _ rfl
  rw [List.getElem?_eq_getElem (show 4 < xs.length by rw [h2]; decide)] at f4
  have f5 := h3 5 _ rfl
  rw [List.getElem?_eq_getElem (show 5 < xs.length by rw [h2]; decide)] at f5
  have f6 := h3 6 _ rfl
  rw [List.getElem?_eq_getElem (show 6 < xs.length by rw [h2]; decide)] at f6
  have f7 := h3 7 _ rfl
  rw [List.getElem?_eq_getElem (show 7 < xs.length by rw [h2]; decide)] at f7
  have f8 := h3 8 _ rfl
  rw [List.getElem?_eq_getElem (show 8 < xs.length by rw [h2]; decide)] at f8
  have f9 := h3 9 _ rfl
  rw [List.getElem?_eq_getElem (show 9 < xs.length by rw [h2]; decide)] at f9
  have f10 := h3 10 _ rfl
  rw [List.getElem?_eq_getElem (show 10 < xs.length by rw [h2]; decide)] at f10
  have f11 := h3 11 _ rfl
  rw [List.getElem?_eq_getElem (show 11 < xs.length by rw [h2]; decide)] at f11
  obtain ⟨c0, r0, rfl, hl0⟩ := XW (n := 16) cs hl
  obtain ⟨c1, r1, rfl, hl1⟩ := XW (n := 15) r0 hl0
  obtain ⟨c2, r2, rfl, hl2⟩ := XW (n := 14) r1 hl1
  obtain ⟨c3, r3, rfl, hl3⟩ := XW (n := 13) r2 hl2
  obtain ⟨c4, r4, rfl, hl4⟩ := XW (n := 12) r3 hl3
  obtain ⟨c5, r5, rfl, hl5⟩ := XW (n := 11) r4 hl4
  obtain ⟨c6, r6, rfl, hl6⟩ := XW (n := 10) r5 hl5
  obtain ⟨c7, r7, rfl, hl7⟩ := XW (n := 9) r6 hl6
  obtain ⟨c8, r8, rfl, hl8⟩ := XW (n := 8) r7 hl7
  obtain ⟨c9, r9, rfl, hl9⟩ := XW (n := 7) r8 hl8
  obtain ⟨c10, r10, rfl, hl10⟩ := XW (n := 6) r9 hl9
  obtain ⟨c11, r11, rfl, hl11⟩ := XW (n := 5) r10 hl10
  obtain ⟨c12, r12, rfl, hl12⟩ := XW (n := 4) r11 hl11
  obtain ⟨c13, r13, rfl, hl13⟩ := XW (n := 3) r12 hl12
  obtain ⟨c14, r14, rfl, hl14⟩ := XW (n := 2) r13 hl13
  obtain ⟨c15, r15, rfl, hl15⟩ := XW (n := 1) r14 hl14
  obtain ⟨c16, r16, rfl, hl16⟩ := XW (n := 0) r15 hl15
  obtain rfl := List.eq_nil_of_length_eq_zero hl16
  rw [show Tryz.prog.cellsOf _ = 1 from by kernel_rfl] at f0 f1 f2 f3 f4 f5 f6 f7 f8 f9 f10
  rw [show Tryz.prog.cellsOf _ = 6 from by kernel_rfl] at f11
  obtain ⟨z0, e0, _, w0⟩ := DataW.trod_int Tryz.underlying3 f0
  injection e0 with e0 _
  have e0 : c0 = .int _ z0 := e0
  subst e0
  obtain ⟨z1, e1, _, w1⟩ := DataW.trod_int Tryz.underlying3 f1
  injection e1 with e1 _
  have e1 : c1 = .int _ z1 := e1
  subst e1
  obtain ⟨z2, e2, _, w2⟩ := DataW.trod_int Tryz.underlying3 f2
  injection e2 with e2 _
  have e2 : c2 = .int _ z2 := e2
  subst e2
  obtain ⟨z3, e3, _, w3⟩ := DataW.trod_int Tryz.underlying3 f3
  injection e3 with e3 _
  have e3 : c3 = .int _ z3 := e3
  subst e3
  obtain ⟨z4, e4, _, w4⟩ := DataW.trod_int Tryz.underlying59 f4
  injection e4 with e4 _
  have e4 : c4 = .int _ z4 := e4
  subst e4
  obtain ⟨z5, e5, _, w5⟩ := DataW.trod_int Tryz.underlying3 f5
  injection e5 with e5 _
  have e5 : c5 = .int _ z5 := e5
  subst e5
  obtain ⟨z6, e6, _, w6⟩ := DataW.trod_int Tryz.underlying3 f6
  injection e6 with e6 _
  have e6 : c6 = .int _ z6 := e6
  subst e6
  obtain ⟨z7, e7, _, w7⟩ := DataW.trod_int Tryz.underlying3 f7
  injection e7 with e7 _
  have e7 : c7 = .int _ z7 := e7
  subst e7
  obtain ⟨z8, e8, _⟩ := DataW.trod_bool Tryz.underlying4 f8
  injection e8 with e8 _
  have e8 : c8 = .bool z8 := e8
  subst e8
  obtain ⟨z9, e9, _⟩ := DataW.trod_bool Tryz.underlying4 f9
  injection e9 with e9 _
  have e9 : c9 = .bool z9 := e9
  subst e9
  obtain ⟨z10, e10, _, w10⟩ := DataW.trod_int Tryz.underlying3 f10
  injection e10 with e10 _
  have e10 : c10 = .int _ z10 := e10
  subst e10
  obtain ⟨a, ha⟩ := adr_in w4
  obtain ⟨fa, g1, g2, g3, g4, g5, hg⟩ := ans_cells f11
  have hg : [c11, c12, c13, c14, c15, c16] = [.int .u32 (fa.val : Int), .int .i64 g1, .int .i64 g2, .int .i64 g3, .int .i64 g4, .int .i64 g5] := hg
  simp only [List.cons.injEq, and_true] at hg
  obtain ⟨rfl, rfl, rfl, rfl, rfl, rfl⟩ := hg
  exact ⟨⟨z0, z1, z2, z3, a, z5, z6, z7, z8, z9, z10, fa, g1, g2, g3, g4, g5⟩, rfl, rfl, rfl, rfl, ha, rfl, rfl, rfl, rfl, rfl, rfl, rfl, rfl, rfl, rfl, rfl, rfl, trivial⟩
theorem ress_in (h : DataW.trod enc Tryz.prog w base spare held fuel 23 cs = some x) : ∃ (v : Value) (l : List Rs), cs = [v] ∧ l.length ≤ 9223372036854775807 ∧ (rssC l).p (fun _ => True) w v := by
  obtain ⟨v, zs, h1, h2, _, h3, _⟩ := slice_inS Tryz.underlying23 (n := 17) (by kernel_rfl) (by decide) rsCs (fun _ => rfl) (fun _ => True) (fun m cs y hy _ => by
    obtain ⟨r, hr⟩ := res_cells hy
    exact ⟨r, hr, trivial⟩) h
  exact ⟨v, zs, h1, h2, h3⟩
theorem cl_cells (hy : DataW.trod enc Tryz.prog w base spare held fuel 62 cs = some x) : ∃ c : Cl, cells (fun _ => True) w (clCs c) cs ∧ U c := by
  obtain ⟨xs, k, rfl, rfl, hl, h2, h3⟩ := DataW.trod_struct Tryz.underlying62 hy
  have hl : cs.length = 7 := hl.trans (by kernel_rfl)
  have f0 := h3 0 _ rfl
  rw [List.getElem?_eq_getElem (show 0 < xs.length by rw [h2]; decide)] at f0
  have f1 := h3 1 _ rfl
  rw [List.getElem?_eq_getElem (show 1 < xs.length by rw [h2]; decide)] at f1
  have f2 := h3 2 _ rfl
  rw [List.getElem?_eq_getElem (show 2 < xs.length by rw [h2]; decide)] at f2
  have f3 := h3 3 _ rfl
  rw [List.getElem?_eq_getElem (show 3 < xs.length by rw [h2]; decide)] at f3
  have f4 := h3 4 _ rfl
  rw [List.getElem?_eq_getElem (show 4 < xs.length by rw [h2]; decide)] at f4
  have f5 := h3 5 _ rfl
  rw [List.getElem?_eq_getElem (show 5 < xs.length by rw [h2]; decide)] at f5
  have f6 := h3 6 _ rfl
  rw [List.getElem?_eq_getElem (show 6 < xs.length by rw [h2]; decide)] at f6
  obtain ⟨c0, r0, rfl, hl0⟩ := XW (n := 6) cs hl
  obtain ⟨c1, r1, rfl, hl1⟩ := XW (n := 5) r0 hl0
  obtain ⟨c2, r2, rfl, hl2⟩ := XW (n := 4) r1 hl1
  obtain ⟨c3, r3, rfl, hl3⟩ := XW (n := 3) r2 hl2
  obtain ⟨c4, r4, rfl, hl4⟩ := XW (n := 2) r3 hl3
  obtain ⟨c5, r5, rfl, hl5⟩ := XW (n := 1) r4 hl4
  obtain ⟨c6, r6, rfl, hl6⟩ := XW (n := 0) r5 hl5
  obtain rfl := List.eq_nil_of_length_eq_zero hl6
  rw [show Tryz.prog.cellsOf _ = 1 from by kernel_rfl] at f0 f1 f2 f3 f4 f5 f6
  obtain ⟨z0, e0, _, w0⟩ := DataW.trod_int Tryz.underlying3 f0
  injection e0 with e0 _
  have e0 : c0 = .int _ z0 := e0
  subst e0
  obtain ⟨z1, e1, _, w1⟩ := DataW.trod_int Tryz.underlying59 f1
  injection e1 with e1 _
  have e1 : c1 = .int _ z1 := e1
  subst e1
  obtain ⟨z2, e2, _, w2⟩ := DataW.trod_int Tryz.underlying59 f2
  injection e2 with e2 _
  have e2 : c2 = .int _ z2 := e2
  subst e2
  obtain ⟨z3, e3, _, w3⟩ := DataW.trod_int Tryz.underlying3 f3
  injection e3 with e3 _
  have e3 : c3 = .int _ z3 := e3
  subst e3
  obtain ⟨z4, e4, _, w4⟩ := DataW.trod_int Tryz.underlying3 f4
  injection e4 with e4 _
  have e4 : c4 = .int _ z4 := e4
  subst e4
  obtain ⟨z5, e5, _, w5⟩ := DataW.trod_int Tryz.underlying3 f5
  injection e5 with e5 _
  have e5 : c5 = .int _ z5 := e5
  subst e5
  obtain ⟨z6, e6, _, w6⟩ := DataW.trod_int Tryz.underlying60 f6
  injection e6 with e6 _
  have e6 : c6 = .int _ z6 := e6
  subst e6
  exact ⟨⟨z0, z1, z2, z3, z4, z5, z6⟩, ⟨rfl, rfl, rfl, rfl, rfl, rfl, rfl, trivial⟩, ⟨(wf_u32 w1).1, (wf_u32 w1).2, (wf_u32 w2).1, (wf_u32 w2).2⟩⟩
theorem cls_in (h : DataW.trod enc Tryz.prog w base spare held fuel 24 cs = some x) : ∃ (v : Value) (l : List Cl), cs = [v] ∧ l.length ≤ 9223372036854775807 ∧ (∀ c ∈ l, U c) ∧ (clsC l).p (fun _ => True) w v ∧ ∀ N, (∀ q ∈ x.1.weights Tryz.prog 24, q ≤ N) → l.length * Tryz.prog.bytesOf 62 ≤ N :=
  slice_inS Tryz.underlying24 (n := 7) (by kernel_rfl) (by decide) clCs (fun _ => rfl) U (fun m cs y hy _ => cl_cells hy) h
theorem any_slice {e t : TypeId} (ht : Tryz.prog.underlying t = some (.slice e)) (h : DataW.trod enc Tryz.prog w base spare held fuel t cs = some x) : ∃ v : Value, cs = [v] ∧ v.oneCell' = true := by
  rcases DataW.trod_slice ht h with ⟨h0, _⟩ | ⟨a, len, cap, elems, rest, m, _, h0, _⟩
  · exact ⟨_, h0, rfl⟩
  · exact ⟨_, h0, rfl⟩
theorem routers_cells (hy : DataW.trod enc Tryz.prog w base spare held fuel 29 cs = some x) : cells (fun _ => True) w [anyC, anyC, anyC] cs := by
  obtain ⟨xs, k, rfl, rfl, hl, h2, h3⟩ := DataW.trod_struct Tryz.underlying29 hy
  have hl : cs.length = 3 := hl.trans (by kernel_rfl)
  have f0 := h3 0 _ rfl
  rw [List.getElem?_eq_getElem (show 0 < xs.length by rw [h2]; decide)] at f0
  have f1 := h3 1 _ rfl
  rw [List.getElem?_eq_getElem (show 1 < xs.length by rw [h2]; decide)] at f1
  have f2 := h3 2 _ rfl
  rw [List.getElem?_eq_getElem (show 2 < xs.length by rw [h2]; decide)] at f2
  obtain ⟨c0, r0, rfl, hl0⟩ := XW (n := 2) cs hl
  obtain ⟨c1, r1, rfl, hl1⟩ := XW (n := 1) r0 hl0
  obtain ⟨c2, r2, rfl, hl2⟩ := XW (n := 0) r1 hl1
  obtain rfl := List.eq_nil_of_length_eq_zero hl2
  rw [show Tryz.prog.cellsOf _ = 1 from by kernel_rfl] at f0 f1 f2
  obtain ⟨v0, e0, o0⟩ := any_slice Tryz.underlying25 f0
  obtain ⟨v1, e1, o1⟩ := any_slice Tryz.underlying26 f1
  obtain ⟨v2, e2, o2⟩ := any_slice Tryz.underlying27 f2
  injection e0 with e0 _
  injection e1 with e1 _
  injection e2 with e2 _
  have e0 : c0 = v0 := e0
  have e1 : c1 = v1 := e1
  have e2 : c2 = v2 := e2
  subst e0 e1 e2
  exact ⟨o0, o1, o2, trivial⟩
theorem atlas_cells (hy : DataW.trod enc Tryz.prog w base spare held fuel 31 cs = some x) : ∃ l : List Cl, cells (fun _ => True) w (atXs l) cs ∧ l.length ≤ 9223372036854775807 ∧ ∀ c ∈ l, U c := by
  obtain ⟨xs, k, rfl, rfl, hl, h2, h3⟩ := DataW.trod_struct Tryz.underlying31 hy
  have hl : cs.length = 4 := hl.trans (by kernel_rfl)
  have f0 := h3 0 _ rfl
  rw [List.getElem?_eq_getElem (show 0 < xs.length by rw [h2]; decide)] at f0
  have f1 := h3 1 _ rfl
  rw [List.getElem?_eq_getElem (show 1 < xs.length by rw [h2]; decide)] at f1
  obtain ⟨c0, r0, rfl, hl0⟩ := XW (n := 3) cs hl
  obtain ⟨c1, r1, rfl, hl1⟩ := XW (n := 2) r0 hl0
  obtain ⟨c2, r2, rfl, hl2⟩ := XW (n := 1) r1 hl1
  obtain ⟨c3, r3, rfl, hl3⟩ := XW (n := 0) r2 hl2
  obtain rfl := List.eq_nil_of_length_eq_zero hl3
  rw [show Tryz.prog.cellsOf _ = 1 from by kernel_rfl] at f0
  rw [show Tryz.prog.cellsOf _ = 3 from by kernel_rfl] at f1
  obtain ⟨v, l, e0, g1, g2, g3, _⟩ := cls_in f0
  injection e0 with e0 _
  have e0 : c0 = v := e0
  subst e0
  obtain ⟨o1, o2, o3, _⟩ : cells (fun _ => True) w [anyC, anyC, anyC] [c1, c2, c3] := routers_cells f1
  exact ⟨l, ⟨g3, o1, o2, o3, trivial⟩, g1, g2⟩
theorem diff_cells (hy : DataW.trod enc Tryz.prog w base spare held fuel 33 cs = some x) : ∃ g m : List Cl, cells (fun _ => True) w (dfCs g m) cs ∧ (∀ c ∈ g, U c) ∧ (∀ c ∈ m, U c) ∧ ∀ N, (∀ q ∈ x.1.weights Tryz.prog 33, q ≤ N) → g.length * 48 ≤ N ∧ m.length * 48 ≤ N := by
  obtain ⟨xs, k, rfl, rfl, hl, h2, h3⟩ := DataW.trod_struct Tryz.underlying33 hy
  have hl : cs.length = 2 := hl.trans (by kernel_rfl)
  have f0 := h3 0 _ rfl
  rw [List.getElem?_eq_getElem (show 0 < xs.length by rw [h2]; decide)] at f0
  have f1 := h3 1 _ rfl
  rw [List.getElem?_eq_getElem (show 1 < xs.length by rw [h2]; decide)] at f1
  obtain ⟨c0, r0, rfl, hl0⟩ := XW (n := 1) cs hl
  obtain ⟨c1, r1, rfl, hl1⟩ := XW (n := 0) r0 hl0
  obtain rfl := List.eq_nil_of_length_eq_zero hl1
  rw [show Tryz.prog.cellsOf _ = 1 from by kernel_rfl] at f0 f1
  obtain ⟨v, l, e0, _, g2, g3, g4⟩ := cls_in f0
  obtain ⟨v', l', e1, _, g2', g3', g4'⟩ := cls_in f1
  injection e0 with e0 _
  injection e1 with e1 _
  have e0 : c0 = v := e0
  have e1 : c1 = v' := e1
  subst e0 e1
  have hb : Tryz.prog.bytesOf 62 = 48 := by kernel_rfl
  rw [hb] at g4 g4'
  refine ⟨l, l', ⟨g3, g3', trivial⟩, g2, g2', fun N hN => ⟨g4 N fun q hq => hN q ?_, g4' N fun q hq => hN q ?_⟩⟩
  · simp only [DataW.weights, Tryz.underlying33]
    exact DataW.weights_mem_each (j := 0) rfl (by rw [List.getElem?_map, List.getElem?_eq_getElem (show 0 < xs.length by rw [h2]; decide)]; rfl) q hq
  · simp only [DataW.weights, Tryz.underlying33]
    exact DataW.weights_mem_each (j := 1) rfl (by rw [List.getElem?_map, List.getElem?_eq_getElem (show 1 < xs.length by rw [h2]; decide)]; rfl) q hq
end
end Go.Proofs.YtcelmhkpcdhneaaGreat
namespace Go.Proofs.YtcelmhkpcdhneaaGreat.versionsLists
open Go.ChangeShapes Go.WideShapes Go.ChangeAt Go.RowKit
open Go.ChangeMaps (open_string shut_string)
set_option linter.unusedVariables false
theorem own : ownKnob Tryz.prog.godebug = none := by kernel_rfl
theorem laidOut : laidOutB Tryz.prog = true := by kernel_rfl
set_option maxRecDepth 100000 in
theorem lifted (os : Os) (started : os.Started) (H : Type) (enc : TypeId × Value → H) :
    ReturnsInHanded {} Tryz.checked os 3 .any (Rows.versionsListsSpec.pre6 enc Tryz.prog Tryz.f3 Rows.versionsListsRow.domain false) (Rows.versionsListsSpec.post enc Tryz.prog Tryz.f3 false true false false) := by
  refine returnsInHanded_of_change_sized (C := Tryz.checked) own started (by kernel_rfl) Tryz.func3
    (ChangeSpec.witness6 (enc := enc) (C := Tryz.checked) false ⟨#[], #[.slice none 0 0, .slice none 0 0, .int .i64 0, .agg #[.slice none 0 0, .slice none 0 0, .slice none 0 0, .slice none 0 0], .agg #[.slice none 0 0, .slice none 0 0, .slice none 0 0, .slice none 0 0], .agg #[.slice none 0 0, .slice none 0 0], .agg #[.slice none 0 0, .slice none 0 0]], []⟩ 8 (by kernel_rfl) (by kernel_rfl) (by kernel_rfl) (by kernel_rfl)) ?_
  intro W base args ds gs before hval0 hW hcnd hsz0 _
  have hval : ∀ (j : Nat) t v, Tryz.f3.params[j]? = some t → args[j]? = some v → Value.okWide Tryz.prog W .any base t v := hval0
  have hW' := hW
  obtain ⟨p, q, hA0, hV, rfl, hfz, hnd⟩ := hW
  have hA : DataW.TrodAll enc Tryz.prog W 0 (fun _ => true) true Tryz.f3.params.toList args.toList ds p := hA0
  rw [Tryz.params3] at hA hval
  obtain ⟨v0, vs0, d0, ds0, p0, q0, hargs0, rfl, rfl, h0, r0⟩ := trodAll_cons hA
  obtain ⟨v1, vs1, d1, ds1, p1, q1, hargs1, rfl, rfl, h1, r1⟩ := trodAll_cons r0
  obtain ⟨v2, vs2, d2, ds2, p2, q2, hargs2, rfl, rfl, h2, r2⟩ := trodAll_cons r1
  obtain ⟨v3, vs3, d3, ds3, p3, q3, hargs3, rfl, rfl, h3, r3⟩ := trodAll_cons r2
  obtain ⟨v4, vs4, d4, ds4, p4, q4, hargs4, rfl, rfl, h4, r4⟩ := trodAll_cons r3
  obtain ⟨v5, vs5, d5, ds5, p5, q5, hargs5, rfl, rfl, h5, r5⟩ := trodAll_cons r4
  obtain ⟨v6, vs6, d6, ds6, p6, q6, hargs6, rfl, rfl, h6, r6⟩ := trodAll_cons r5
  obtain ⟨rfl, rfl, rfl⟩ := trodAll_nil r6
  obtain rfl : args = #[v0, v1, v2, v3, v4, v5, v6] := by cases args; simp_all
  obtain ⟨rfl, rfl⟩ := trodVars_none hV
  have hsz : ∀ (j : Nat) (t : TypeId) (d : DataW H), (Tryz.f3.params.toList ++ Rows.versionsListsSpec.plain.varTypes Tryz.prog)[j]? = some t → [d0, d1, d2, d3, d4, d5, d6][j]? = some d → ∀ q ∈ d.weights Tryz.prog t, q ≤ reachBytes := fun j t d h1 h2 q hq => by
    have := List.all_eq_true.1 hsz0 q (DataW.weights_mem_each h1 (by simpa using h2) q hq)
    simpa using this
  obtain ⟨a0, len0, cap0, rfl⟩ := okWide_slice Tryz.underlying22 (hval 0 22 v0 rfl rfl)
  have k0 := h0
  have lt0 : ∀ x ∈ p0, x.block < W.heap.size := by obtain ⟨m, hm⟩ := k0; exact DataW.trod_lt m _ _ _ hm
  obtain ⟨f0, t0⟩ := h0
  obtain ⟨u0, z0, e0, c0, w0⟩ := bytes_inS Tryz.underlying22 Tryz.underlying5 (by kernel_rfl) t0
  have e0 : Value.slice a0 len0 cap0 = u0 := by simpa [Value.cells] using e0
  subst e0
  obtain ⟨a1, len1, cap1, rfl⟩ := okWide_slice Tryz.underlying23 (hval 1 23 v1 rfl rfl)
  have k1 := h1
  have lt1 : ∀ x ∈ p1, x.block < W.heap.size := by obtain ⟨m, hm⟩ := k1; exact DataW.trod_lt m _ _ _ hm
  obtain ⟨f1, t1⟩ := h1
  obtain ⟨u1, z1, e1, b1, w1⟩ := ress_in t1
  have e1 : Value.slice a1 len1 cap1 = u1 := by simpa [Value.cells] using e1
  subst e1
  obtain ⟨a2, rfl, rfl, rfl, w2⟩ := open_int Tryz.underlying3 (hval 2 3 v2 rfl rfl) h2
  obtain ⟨cs3, rfl⟩ := agg_inS Tryz.underlying31 (hval 3 31 v3 rfl rfl)
  have k3 := h3
  have lt3 : ∀ x ∈ p3, x.block < W.heap.size := by obtain ⟨m, hm⟩ := k3; exact DataW.trod_lt m _ _ _ hm
  obtain ⟨f3, t3⟩ := h3
  obtain ⟨z3, w3, b3, u3⟩ := atlas_cells (cs := cs3) t3
  obtain ⟨cs4, rfl⟩ := agg_inS Tryz.underlying31 (hval 4 31 v4 rfl rfl)
  have k4 := h4
  have lt4 : ∀ x ∈ p4, x.block < W.heap.size := by obtain ⟨m, hm⟩ := k4; exact DataW.trod_lt m _ _ _ hm
  obtain ⟨f4, t4⟩ := h4
  obtain ⟨z4, w4, b4, u4⟩ := atlas_cells (cs := cs4) t4
  obtain ⟨cs5, rfl⟩ := agg_inS Tryz.underlying33 (hval 5 33 v5 rfl rfl)
  have k5 := h5
  have lt5 : ∀ x ∈ p5, x.block < W.heap.size := by obtain ⟨m, hm⟩ := k5; exact DataW.trod_lt m _ _ _ hm
  obtain ⟨f5, t5⟩ := h5
  obtain ⟨g5, m5, w5, u5, y5, b5⟩ := diff_cells (cs := cs5) t5
  have b5 := b5 reachBytes (hsz 5 33 d5 rfl rfl)
  rw [show reachBytes = 140737488351232 from rfl] at b5
  obtain ⟨cs6, rfl⟩ := agg_inS Tryz.underlying33 (hval 6 33 v6 rfl rfl)
  have k6 := h6
  have lt6 : ∀ x ∈ p6, x.block < W.heap.size := by obtain ⟨m, hm⟩ := k6; exact DataW.trod_lt m _ _ _ hm
  obtain ⟨f6, t6⟩ := h6
  obtain ⟨g6, m6, w6, u6, y6, b6⟩ := diff_cells (cs := cs6) t6
  have b6 := b6 reachBytes (hsz 6 33 d6 rfl rfl)
  rw [show reachBytes = 140737488351232 from rfl] at b6
  clear hA0 hval0
  refine (((VersionsLists_ok z0 c0 z1 a2 z3 z4 g5 m5 g6 m6 (by omega) (by omega) (by omega) (by omega) (by omega) (by omega) (by omega) u3 u4 u5 y5 u6 y6) (fun _ => True) W [.slice a0 len0 cap0, .slice a1 len1 cap1, .int .i64 a2, .agg cs3.toArray, .agg cs4.toArray, .agg cs5.toArray, .agg cs6.toArray] (fun _ _ => trivial) ⟨w0, w1, rfl, ⟨cs3, rfl, w3⟩, ⟨cs4, rfl, w4⟩, ⟨cs5, rfl, w5⟩, ⟨cs6, rfl, w6⟩, trivial⟩)).mono fun e W' ⟨v, he, hv, bel⟩ => ?_
  have hv : v = .bool true := hv
  subst hv he
  exact ⟨_, rfl, _, _, _, [], _, [], hW', trodAll_mk1 (shut_bool Tryz.underlying4 _), (trodAll_cons_mk (Below.trod laidOut (by kernel_rfl) (of_decide_eq_true (by kernel_rfl)) k0 bel.kit lt0) (trodAll_cons_mk (Below.trod laidOut (by kernel_rfl) (of_decide_eq_true (by kernel_rfl)) k1 bel.kit lt1) (trodAll_cons_mk (shut_int Tryz.underlying3 w2) (trodAll_cons_mk (Below.trod laidOut (by kernel_rfl) (of_decide_eq_true (by kernel_rfl)) k3 bel.kit lt3) (trodAll_cons_mk (Below.trod laidOut (by kernel_rfl) (of_decide_eq_true (by kernel_rfl)) k4 bel.kit lt4) (trodAll_cons_mk (Below.trod laidOut (by kernel_rfl) (of_decide_eq_true (by kernel_rfl)) k5 bel.kit lt5) (trodAll_cons_mk (Below.trod laidOut (by kernel_rfl) (of_decide_eq_true (by kernel_rfl)) k6 bel.kit lt6) trodAll_mk0))))))), rfl, bel.kit.frame _, fun h => by cases h⟩
theorem over : Rows.versionsListsRow.holds Tryz.pinned (OpenSpec.ofChange Rows.versionsListsSpec) :=
  OpenClaim.holds_of_wide 3 Tryz.f3 rfl rfl rfl rfl rfl rfl rfl ⟨rfl, rfl, rfl, rfl, rfl⟩ rfl rfl rfl rfl rfl (by kernel_rfl) Tryz.func3 (by kernel_rfl)
    (of_decide_eq_true (by kernel_rfl)) (by unfold Func.isWrapper; first | (rw [if_pos (by decide +kernel)]; kernel_rfl) | (rw [if_neg (by decide +kernel)]; exact ⟨rfl, rfl⟩))
    (fun os started H enc _ => lifted os started H enc)
theorem proved : Rows.VersionsListsSaid := over
#print axioms proved
end Go.Proofs.YtcelmhkpcdhneaaGreat.versionsLists
