/-
  Walks: dice.Fractions.
-/
import Derived.Test.YtgpkpmhdfcopgaaD2
import Derived.Test.YtgpkpmhdfcopgaaQ8
namespace Go.Proofs.Ytgpkpmhdfcopgaa
open Go.Own Go.Limbs
attribute [local irreducible] St Ops Go.Own.Fin Ok OkB OkN wpA

/-- A fraction that Fractions makes, in twelfths. -/
theorem rFrom_tw (a b : Int) (ha : -9223372036854775808 ≤ a ∧ a ≤ 9223372036854775807) (hb : 0 ≤ b ∧ b < 4) : ∃ e : Int, 1 ≤ e ∧ e ≤ 12 ∧ Ok Try.prog 22 [intC a, intC (1 + b)] (.fr (tupT [twC (a * e), intC 0])) := by
  have hR := rFrom_ok a (1 + b) ha.1 ha.2 (by omega) (by omega) (by omega)
  have key : ∀ d e : Nat, d * e = 12 → 1 + b = (d : Int) → 1 ≤ (e : Int) → (e : Int) ≤ 12 → ∃ e : Int, 1 ≤ e ∧ e ≤ 12 ∧ Ok Try.prog 22 [intC a, intC (1 + b)] (.fr (tupT [twC (a * e), intC 0])) := fun d e h1 h2 h3 h4 => by
    refine ⟨(e : Int), h3, h4, ?_⟩
    have h5 : Rat.divInt a (1 + b) = tw (a * e) := by rw [h2]; exact tw_div a d e h1
    rw [h5] at hR
    exact hR
  rcases (by omega : 1 + b = 1 ∨ 1 + b = 2 ∨ 1 + b = 3 ∨ 1 + b = 4) with h | h | h | h
  · exact key 1 12 rfl h (by decide) (by decide)
  · exact key 2 6 rfl h (by decide) (by decide)
  · exact key 3 4 rfl h (by decide) (by decide)
  · exact key 4 3 rfl h (by decide) (by decide)

set_option maxHeartbeats 4000000 in
theorem Fractions_ok (bs : List Int) (p : Nat) (n : Int) (h0 : 0 ≤ n) (h1 : n ≤ 10) (hb : Bytes bs) :
    OkB Try.prog 7 57 (codes bs p) [intC n] (fun q : List Int × Nat => (q.1.length : Int) = n ∧ ∀ y ∈ q.1, 0 ≤ y ∧ y ≤ 132) (fun q => twsC q.1) (fun q => codes bs q.2) := by
  refine OkB.enter Try.func7 rfl _ Try.ntmps7 rfl ?_
  intro S w g
  (refine St.seq ?_; refine St.regionK (fun K hK => ?_); refine Ops.assign rfl rfl rfl ?_; refine Ops.nil (hK _ _ ?_); clear hK K; refine Fin.then ?_; refine St.seq ?_; refine St.regionK (fun K hK => ?_); refine Ops.assign rfl rfl rfl ?_; refine Ops.nil (hK _ _ ?_); clear hK K; refine Fin.then ?_; refine St.seq ?_; refine St.block ?_)
  refine St.nilRow 5 1 34 3 rfl rfl rfl ?_
  refine St.loop (α := Int × List Int × Nat) (fun x => 0 ≤ x.1 ∧ x.2.1.length + x.1 = n ∧ ∀ y ∈ x.2.1, 0 ≤ y ∧ y ≤ 132)
    (fun x => [(0, .own 0), (1, .ct (intC x.1)), (5, .own 1)]) (fun x => [(1, .row 34 3 (frs x.2.1)), (0, .box 57 (codes bs x.2.2))]) (fun x => x.1.toNat) (n, [], p) ⟨h0, by simp, by simp⟩ (by exact Entails.of rfl ⟨rfl, rfl, rfl, trivial⟩) ?_
  rintro ⟨m, ys, p1⟩ ⟨hm0, hml, hys⟩
  dsimp only at hm0 hml hys ⊢
  (refine St.seq ?_; refine St.seq ?_; refine St.regionK (fun K hK => ?_); refine Ops.move rfl rfl rfl ?_; refine Ops.ibin igtr rfl rfl rfl rfl ?_; refine Ops.nil (hK _ _ ?_); clear hK K; refine Fin.then ?_)
  refine St.condP rfl (fun hm => ?_) (fun hm => ?_)
  · (refine St.skip ?_; refine Fin.then ?_; refine St.seq ?_; refine St.block ?_; refine St.seq ?_; refine St.regionK (fun K hK => ?_); refine Ops.move rfl rfl rfl ?_)
    refine Ops.callB goNext (Next_ok bs p1 12 (by decide) (by decide) hb) rfl rfl rfl rfl rfl (fun q hq => ?_)
    obtain ⟨a, p2⟩ := q
    dsimp only at hq ⊢
    (refine Ops.move rfl rfl rfl ?_)
    refine Ops.callB goNext (Next_ok bs p2 4 (by decide) (by decide) hb) rfl rfl rfl rfl rfl (fun q hq1 => ?_)
    obtain ⟨b, p3⟩ := q
    dsimp only at hq1 ⊢
    obtain ⟨e, he1, he2, hF⟩ := rFrom_tw a b ⟨by omega, by omega⟩ hq1
    have hae : 0 ≤ a * e ∧ a * e ≤ 132 := ⟨Int.mul_nonneg (by omega) (by omega), by
      have h1 := Int.mul_le_mul_of_nonneg_right (show a ≤ 11 by omega) (show 0 ≤ e by omega)
      omega⟩
    generalize a * e = y at hF hae
    (refine Ops.ibin (iadd (by omega) (by omega)) rfl rfl rfl rfl ?_)
    refine Ops.call gorFrom hF rfl rfl rfl rfl ?_
    (refine Ops.move rfl rfl rfl ?_; refine Ops.extract rfl rfl rfl rfl ?_; refine Ops.extract rfl rfl rfl rfl ?_; refine Ops.alloc 2 rfl rfl (by with_reducible first | exact zvFrac) rfl rfl rfl ?_; refine Ops.stWN 3 rfl rfl rfl rfl rfl (by with_reducible exact szFrac) rfl rfl ?_; refine Ops.assign rfl rfl rfl ?_; refine Ops.nil (hK _ _ ?_); clear hK K; refine Fin.then ?_; refine St.regionK (fun K hK => ?_); refine Ops.move rfl rfl rfl ?_; refine Ops.ldNO (n := 3) rfl rfl rfl rfl rfl (by with_reducible exact lFrac) rfl ?_)
    refine Ops.litN (n := 3) rfl rfl (by with_reducible exact sFracs) rfl rfl (by decide) rfl ?_
    refine Ops.append1 ys.length (frs (ys ++ [y])) rfl rfl rfl rfl (by with_reducible exact sFracs) (frs_len ys) rfl (by omega) (by omega) (frs_snoc ys y) rfl ?_
    (refine Ops.assign rfl rfl rfl ?_; refine Ops.nil (hK _ _ ?_); clear hK K; refine Fin.then ?_; refine St.regionK (fun K hK => ?_); refine Ops.move rfl rfl rfl ?_; refine Ops.ibin (isub (by omega) (by omega)) rfl rfl rfl rfl ?_; refine Ops.assign rfl rfl rfl ?_; refine Ops.nil (hK _ _ ?_); clear hK K; refine Fin.thenN ?_)
    refine Fin.dropB 2 ?_
    refine Fin.next (m - 1, ys ++ [y], p3) (by dsimp only; omega) ⟨by dsimp only; omega, by simp; omega, mem_snoc hys hae⟩ (by exact Entails.of rfl ⟨rfl, rfl, rfl, trivial⟩)
  · refine St.frz 1 _ rfl (frs_frozen _ _) (okFix_lent rfl) ?_
    (refine St.exit ?_; refine Fin.then ?_; refine St.seq ?_; refine St.regionK (fun K hK => ?_); refine Ops.move rfl rfl rfl ?_; refine Ops.assign rfl rfl rfl ?_; refine Ops.nil (hK _ _ ?_); clear hK K; refine Fin.then ?_; refine St.ret ?_)
    refine Fin.retB (ys, p1) [_] rfl (AllRes.tmp rfl AllRes.nil) rfl rfl ⟨by show (ys.length : Int) = n; omega, hys⟩
theorem goFractions : InGo Try.prog 7 := InGo.of Try.func7 rfl (by decide)
end Go.Proofs.Ytgpkpmhdfcopgaa
