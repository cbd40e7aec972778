/-
  Walks: routescoperef02.Split, Word, Int.
-/
import Derived.Test.YtgpkpmhdfcopgaaQ2
import Derived.Test.YtgpkpmhdfcopgaaK11
namespace Go.Proofs.Ytgpkpmhdfcopgaa
open Go.Own Go.Limbs
attribute [local irreducible] St Ops Go.Own.Fin Ok

theorem uU64 : Try.prog.underlying 90 = some (.int .u64) := Try.underlying90
theorem uI64 : Try.prog.underlying 3 = some (.int .i64) := Try.underlying3
abbrev wordC (x : Int) : CT := .ex (.int .u64 x)

set_option maxHeartbeats 2000000 in
theorem rWord_ok (n : Nat) (hn : n < 18446744073709551616) : Ok Try.prog 64 [wordC n] (natC n) := by
  refine Ok.enter Try.func64 rfl _ Try.ntmps64 rfl ?_
  intro S w
  (refine St.seq ?_; refine St.regionK (fun K hK => ?_); refine Ops.assign rfl rfl rfl ?_; refine Ops.nil (hK _ _ ?_); clear hK K; refine Fin.then ?_; refine St.seq ?_; refine St.regionK (fun K hK => ?_); refine Ops.assign rfl rfl rfl ?_; refine Ops.nil (hK _ _ ?_); clear hK K; refine Fin.then ?_; refine St.seq ?_; refine St.block ?_)
  refine St.nilRow 3 0 3 1 rfl rfl rfl ?_
  skip
  refine St.loop (α := Nat × List Int) (fun s => s.1 ≤ n ∧ limbs n = s.2 ++ limbs s.1)
    (fun s => [(0, .ct (wordC s.1)), (3, .own 0)]) (fun s => [(0, .row 3 1 (ints s.2))]) (fun s => s.1) (n, []) ⟨Nat.le_refl _, rfl⟩ (by exact Entails.of rfl ⟨rfl, rfl, trivial⟩) ?_
  rintro ⟨m, zs⟩ ⟨hm, hv⟩
  dsimp only at hm hv ⊢
  have hl : zs.length ≤ 64 := by
    have h1 := congrArg List.length hv
    have h2 := limbs_length_le (n := n) (k := 3) (by omega)
    simp at h1; omega
  (refine St.seq ?_; refine St.seq ?_; refine St.regionK (fun K hK => ?_); refine Ops.move rfl rfl rfl ?_; refine Ops.ibin igtr rfl rfl rfl rfl ?_; refine Ops.nil (hK _ _ ?_); clear hK K; refine Fin.then ?_)
  refine St.condP rfl (fun h => ?_) (fun h => ?_)
  · (refine St.skip ?_; refine Fin.then ?_; refine St.seq ?_; refine St.block ?_; refine St.regionK (fun K hK => ?_); refine Ops.move rfl rfl rfl ?_; refine Ops.move rfl rfl rfl ?_)
    refine Ops.ibin (urem (by omega) (by omega)) rfl rfl rfl rfl ?_
    refine Ops.conv rfl rfl (by with_reducible exact uU64) (by with_reducible exact uI64) (wrap_id (by omega) (by omega)) rfl ?_
    refine Ops.lit1 rfl rfl (by with_reducible exact sNat) rfl rfl rfl ?_
    refine Ops.append1 zs.length (ints (zs ++ [(m : Int) % 1073741824])) rfl rfl rfl rfl (by with_reducible exact sNat) (by simp [ints]) rfl (by omega) (by omega) (by simp [ints]) rfl ?_
    (refine Ops.assign rfl rfl rfl ?_; refine Ops.nil (hK _ _ ?_); clear hK K; refine Fin.then ?_; refine St.regionK (fun K hK => ?_); refine Ops.move rfl rfl rfl ?_)
    refine Ops.ibin (uquo (by omega) (by omega) (by omega)) rfl rfl rfl rfl ?_
    (refine Ops.assign rfl rfl rfl ?_; refine Ops.nil (hK _ _ ?_); clear hK K; refine Fin.thenN ?_)
    refine Fin.next (m / 1073741824, zs ++ [(m : Int) % 1073741824]) (by dsimp only; omega) ⟨by dsimp only; omega, ?_⟩ ?_
    all_goals dsimp only
    · rw [hv, limbs_pos (n := m) (by omega)]; simp
    · exact Entails.of rfl ⟨by rw [Int.natCast_ediv]; rfl, rfl, trivial⟩
  · have : m = 0 := by omega
    subst this
    rw [limbs_zero, List.append_nil] at hv
    subst hv
    refine St.freeze 0 _ rfl (ints_frozen _ _) noBor_sub ?_
    (refine St.exit ?_; refine Fin.then ?_; refine St.seq ?_; refine St.regionK (fun K hK => ?_); refine Ops.move rfl rfl rfl ?_; refine Ops.assign rfl rfl rfl ?_; refine Ops.nil (hK _ _ ?_); clear hK K; refine Fin.then ?_; refine St.ret ?_)
    refine Fin.ret [_] rfl (AllRes.tmp rfl AllRes.nil) rfl rfl
theorem gorWord : InGo Try.prog 64 := InGo.of Try.func64 (by kernel_rfl) (by kernel_rfl)

end Go.Proofs.Ytgpkpmhdfcopgaa
