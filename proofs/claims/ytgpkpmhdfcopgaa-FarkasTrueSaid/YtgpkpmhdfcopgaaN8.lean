/-
  Walks: natural.DivMod where the divisor has one limb or is greater, natural.Gcd, natural.Int, natural.Valid.
-/
import Derived.Test.YtgpkpmhdfcopgaaN7
namespace Go.Proofs.Ytgpkpmhdfcopgaa
open Go.Own Go.Limbs
attribute [local irreducible] St Ops Go.Own.Fin Ok

theorem natC_zero : natC 0 = intsC [] := by show intsC (limbs 0) = intsC []; rw [limbs_zero]

theorem limbs_one {b : Nat} (h0 : 0 < b) (h : b < 1073741824) : limbs b = [(b : Int)] := by
  rw [limbs_pos (by omega), Nat.mod_eq_of_lt h, Nat.div_eq_of_lt h, limbs_zero]

set_option maxHeartbeats 2000000 in
theorem DivMod_small (a b : Nat) (h0 : 0 < b) (hb : b < 1073741824) (hl : (limbs a).length ≤ 256) : Ok Try.prog 71 [natC a, natC b] (.fr (tupT [natC (a / b), natC (a % b), intC 0])) := by
  have hlb : (limbs b).length = 1 := by rw [limbs_one h0 hb]; rfl
  refine Ok.enter Try.func71 rfl _ Try.ntmps71 rfl ?_
  intro S w
  (refine St.seq ?_; refine St.regionK (fun K hK => ?_); refine Ops.assign rfl rfl rfl ?_; refine Ops.assign rfl rfl rfl ?_; refine Ops.assign rfl rfl rfl ?_; refine Ops.nil (hK _ _ ?_); refine Fin.then ?_; refine St.seq ?_; refine St.regionK (fun K hK => ?_); refine Ops.move rfl rfl rfl ?_)
  refine Ops.call gotrim (trim_ok _ (by omega)) rfl rfl rfl rfl ?_
  rw [trim_of_limbs]
  (refine Ops.assign rfl rfl rfl ?_; refine Ops.nil (hK _ _ ?_); refine Fin.then ?_; refine St.seq ?_; refine St.regionK (fun K hK => ?_); refine Ops.move rfl rfl rfl ?_; refine Ops.lenF rfl rfl (by with_reducible first | exact sNat.und | exact sInts.und) (List.length_map ..) rfl ?_; refine Ops.assign rfl rfl rfl ?_; refine Ops.nil (hK _ _ ?_); refine Fin.then ?_; refine St.seq ?_; refine St.block ?_; refine St.seq ?_; refine St.regionK (fun K hK => ?_); refine Ops.move rfl rfl rfl ?_; refine Ops.ibin ieql rfl rfl rfl rfl ?_; refine Ops.assign rfl rfl rfl ?_; refine Ops.nil (hK _ _ ?_); refine Fin.then ?_)
  refine St.condP rfl (fun h => ?_) (fun h => ?_)
  · omega
  clear h
  (refine St.seq ?_; refine St.regionK (fun K hK => ?_); refine Ops.move rfl rfl rfl ?_; refine Ops.move rfl rfl rfl ?_)
  refine Ops.call goCompare (Compare_ok a b (by omega) (by omega)) rfl rfl rfl rfl ?_
  (refine Ops.ibin ilss rfl rfl rfl rfl ?_; refine Ops.assign rfl rfl rfl ?_; refine Ops.nil (hK _ _ ?_); refine Fin.then ?_)
  refine St.condP rfl (fun h => ?_) (fun h => ?_)
  · have hlt : a < b := by
      rw [cmpI_eq] at h; split at h
      · omega
      · split at h <;> omega
    (refine St.seq ?_; refine St.regionK (fun K hK => ?_); refine Ops.move rfl rfl rfl ?_)
    refine Ops.call goClone (Clone_ok _ (by omega)) rfl rfl rfl rfl ?_
    (refine Ops.assign rfl rfl rfl ?_; refine Ops.assign rfl rfl rfl ?_; refine Ops.assign rfl rfl rfl ?_; refine Ops.nil (hK _ _ ?_); refine Fin.then ?_; refine St.ret ?_; refine Fin.blockRet ?_; refine Fin.thenRet ?_)
    rw [Nat.div_eq_of_lt hlt, Nat.mod_eq_of_lt hlt, natC_zero]
    refine Fin.ret [_, _, _] rfl (AllRes.nilS 1 rfl (AllRes.tmp rfl (AllRes.tmp rfl AllRes.nil))) rfl rfl
  clear h
  (refine St.seq ?_; refine St.regionK (fun K hK => ?_); refine Ops.move rfl rfl rfl ?_; refine Ops.ibin ieql rfl rfl rfl rfl ?_; refine Ops.assign rfl rfl rfl ?_; refine Ops.nil (hK _ _ ?_); refine Fin.then ?_)
  refine St.condP rfl (fun h => ?_) (fun h => ?_)
  · have e0 : (limbs b).getD (0 : Int).toNat 0 = b := by rw [limbs_one h0 hb]; rfl
    (refine St.seq ?_; refine St.regionK (fun K hK => ?_); refine Ops.move rfl rfl rfl ?_; refine Ops.move rfl rfl rfl ?_; refine Ops.idxF rfl rfl rfl (by with_reducible first | exact sNat | exact sInts) (by omega) (ints_at (by omega) (by omega)) rfl ?_; refine Ops.ld1F rfl rfl rfl (by with_reducible first | exact lInt | exact lNat | exact lBool | exact lInts) rfl ?_)
    rw [e0]
    refine Ops.call gosmall (small_ok a b (by omega) (by simp only [BB]; omega) hl) rfl rfl rfl rfl ?_
    have e1 : ((a : Int) / (b : Int)).toNat = a / b := by rw [← Int.natCast_ediv, Int.toNat_natCast]
    rw [e1]
    (refine Ops.move rfl rfl rfl ?_; refine Ops.extract rfl rfl rfl rfl ?_; refine Ops.extract rfl rfl rfl rfl ?_; refine Ops.assign rfl rfl rfl ?_; refine Ops.assign rfl rfl rfl ?_; refine Ops.nil (hK _ _ ?_); refine Fin.then ?_; refine St.seq ?_; refine St.regionK (fun K hK => ?_); refine Ops.move rfl rfl rfl ?_; refine Ops.move rfl rfl rfl ?_)
    refine Ops.lit1 rfl rfl sNat rfl rfl rfl ?_
    refine Ops.call gotrim (trim_ok [(a : Int) % b] (by simp)) rfl rfl rfl rfl ?_
    have e2 : trimL [(a : Int) % b] = limbs (a % b) := by
      have hm := Nat.mod_lt a h0
      rw [trim_limbs (OKL.cons (by simp only [BB]; omega) OKL.nil)]
      simp only [val]; congr 1
    rw [e2]
    (refine Ops.assign rfl rfl rfl ?_; refine Ops.assign rfl rfl rfl ?_; refine Ops.assign rfl rfl rfl ?_; refine Ops.nil (hK _ _ ?_); refine Fin.then ?_; refine St.ret ?_; refine Fin.blockRet ?_; refine Fin.thenRet ?_)
    refine Fin.ret [_, _, _] rfl (AllRes.tmp rfl (AllRes.tmp rfl (AllRes.tmp rfl AllRes.nil))) rfl rfl
  · omega
theorem goDivMod : InGo Try.prog 71 := InGo.of Try.func71 (by kernel_rfl) (by kernel_rfl)

set_option maxHeartbeats 2000000 in
theorem Gcd_small (a b : Nat) (hb : b < 1073741824) (hl : (limbs a).length ≤ 256) : Ok Try.prog 70 [natC a, natC b] (natC (Nat.gcd a b)) := by
  have hlb : (limbs b).length ≤ 1 := limbs_length_le (k := 1) (by omega)
  refine Ok.enter Try.func70 rfl _ Try.ntmps70 rfl ?_
  intro S w
  (refine St.seq ?_; refine St.regionK (fun K hK => ?_); refine Ops.assign rfl rfl rfl ?_; refine Ops.nil (hK _ _ ?_); refine Fin.then ?_; refine St.seq ?_; refine St.seq ?_; refine St.regionK (fun K hK => ?_); refine Ops.move rfl rfl rfl ?_)
  refine Ops.call goClone (Clone_ok _ (by omega)) rfl rfl rfl rfl ?_
  (refine Ops.move rfl rfl rfl ?_)
  refine Ops.call goClone (Clone_ok _ (by omega)) rfl rfl rfl rfl ?_
  (refine Ops.assign rfl rfl rfl ?_; refine Ops.assign rfl rfl rfl ?_; refine Ops.nil (hK _ _ ?_); refine Fin.then ?_; refine St.block ?_)
  refine St.loop (α := Nat × Nat) (fun s => s.2 < 1073741824 ∧ (limbs s.1).length ≤ 256 ∧ Nat.gcd s.1 s.2 = Nat.gcd a b)
    (fun s => [(0, .ct (natC s.1)), (1, .ct (natC s.2))]) (fun _ => []) (fun s => s.2) (a, b) ⟨hb, hl, rfl⟩ (by exact Entails.of rfl ⟨rfl, rfl, trivial⟩) ?_
  rintro ⟨p, q⟩ ⟨hq, hp, hg⟩
  dsimp only at hq hp hg ⊢
  (refine St.seq ?_; refine St.seq ?_; refine St.regionK (fun K hK => ?_); refine Ops.move rfl rfl rfl ?_; refine Ops.lenF rfl rfl (by with_reducible first | exact sNat.und | exact sInts.und) (List.length_map ..) rfl ?_; refine Ops.ibin igtr rfl rfl rfl rfl ?_; refine Ops.nil (hK _ _ ?_); refine Fin.then ?_)
  refine St.condP rfl (fun h => ?_) (fun h => ?_)
  · have hq0 : 0 < q := by
      rcases Nat.eq_zero_or_pos q with h0 | h0
      · subst h0; rw [limbs_zero] at h; simp at h
      · exact h0
    (refine St.skip ?_; refine Fin.then ?_; refine St.block ?_; refine St.seq ?_; refine St.regionK (fun K hK => ?_); refine Ops.move rfl rfl rfl ?_; refine Ops.move rfl rfl rfl ?_)
    refine Ops.call goDivMod (DivMod_small p q hq0 hq hp) rfl rfl rfl rfl ?_
    (refine Ops.move rfl rfl rfl ?_; refine Ops.extract rfl rfl rfl rfl ?_; refine Ops.extract rfl rfl rfl rfl ?_; refine Ops.extract rfl rfl rfl rfl ?_; refine Ops.assign rfl rfl rfl ?_; refine Ops.assign rfl rfl rfl ?_; refine Ops.assign rfl rfl rfl ?_; refine Ops.nil (hK _ _ ?_); refine Fin.then ?_; refine St.seq ?_; refine St.seq ?_; refine St.regionK (fun K hK => ?_); refine Ops.move rfl rfl rfl ?_; refine Ops.ibin ineq rfl rfl rfl rfl ?_; refine Ops.nil (hK _ _ ?_); refine Fin.then ?_; refine St.condF rfl ?_; refine St.skip ?_; refine Fin.then ?_; refine St.regionK (fun K hK => ?_); refine Ops.move rfl rfl rfl ?_; refine Ops.move rfl rfl rfl ?_; refine Ops.assign rfl rfl rfl ?_; refine Ops.assign rfl rfl rfl ?_; refine Ops.nil (hK _ _ ?_); refine Fin.blockN ?_; refine Fin.thenN ?_)
    have hm := Nat.mod_lt p hq0
    refine Fin.next (q, p % q) hm ⟨by dsimp only; omega, ?_, ?_⟩ (by exact Entails.of rfl ⟨rfl, rfl, trivial⟩)
    · have := limbs_length_le (n := q) (k := 1) (by omega)
      dsimp only; omega
    · dsimp only; rw [← hg, Nat.gcd_comm, ← Nat.gcd_rec, Nat.gcd_comm]
  · have hq0 : q = 0 := limbs_nil (List.eq_nil_of_length_eq_zero (by omega))
    have e : p = Nat.gcd a b := by rw [← hg, hq0, Nat.gcd_zero_right]
    rw [← e]
    (refine St.exit ?_; refine Fin.then ?_; refine St.seq ?_; refine St.regionK (fun K hK => ?_); refine Ops.move rfl rfl rfl ?_; refine Ops.assign rfl rfl rfl ?_; refine Ops.nil (hK _ _ ?_); refine Fin.then ?_; refine St.ret ?_)
    refine Fin.ret [_] rfl (AllRes.tmp rfl AllRes.nil) rfl rfl
theorem goGcd : InGo Try.prog 70 := InGo.of Try.func70 (by kernel_rfl) (by kernel_rfl)

end Go.Proofs.Ytgpkpmhdfcopgaa
