/-
  Walks: natural.Int, fraction.round, whole, Floor (small denominators).
-/
import Derived.Test.YtgpkpmhdfcopgaaN11
namespace Go.Proofs.Ytgpkpmhdfcopgaa
open Go.Own Go.Limbs
attribute [local irreducible] St Ops Go.Own.Fin Ok

set_option maxHeartbeats 2000000 in
theorem Int_ok (n : Nat) (hn : n ≤ 4611686018427387904) : Ok Try.prog 78 [natC n] (.fr (tupT [intC n, intC 0])) := by
  have hl : (limbs n).length ≤ 3 := limbs_length_le (k := 3) (by omega)
  refine Ok.enter Try.func78 rfl _ Try.ntmps78 rfl ?_
  intro S w
  (refine St.seq ?_; refine St.regionK (fun K hK => ?_); refine Ops.assign rfl rfl rfl ?_; refine Ops.assign rfl rfl rfl ?_; refine Ops.nil (hK _ _ ?_); clear hK K; refine Fin.then ?_; refine St.seq ?_; refine St.regionK (fun K hK => ?_); refine Ops.assign rfl rfl rfl ?_; refine Ops.nil (hK _ _ ?_); clear hK K; refine Fin.then ?_; refine St.seq ?_; refine St.seq ?_; refine St.regionK (fun K hK => ?_); refine Ops.move rfl rfl rfl ?_; refine Ops.lenF rfl rfl (by with_reducible first | exact sNat.und | exact sInts.und) (List.length_map ..) rfl ?_; refine Ops.ibin (isub (by omega) (by omega)) rfl rfl rfl rfl ?_; refine Ops.assign rfl rfl rfl ?_; refine Ops.nil (hK _ _ ?_); clear hK K; refine Fin.then ?_; refine St.block ?_)
  refine St.loop (α := Nat × Int) (fun s => s.1 ≤ (limbs n).length ∧ 0 ≤ s.2 ∧ s.2 * BB ^ s.1 + pre (limbs n) s.1 = n)
    (fun s => [(0, .ct (natC n)), (4, .ct (intC s.2)), (5, .ct (intC ((s.1 : Int) - 1)))]) (fun _ => []) (fun s => s.1) ((limbs n).length, 0) ⟨Nat.le_refl _, Int.le_refl _, by dsimp only; rw [val_eq_pre]; simp⟩ (by exact Entails.of rfl ⟨rfl, rfl, rfl, trivial⟩) ?_
  rintro ⟨q, v⟩ ⟨hq, hv, hvq⟩
  dsimp only at hq hv hvq ⊢
  (refine St.seq ?_; refine St.seq ?_; refine St.regionK (fun K hK => ?_); refine Ops.move rfl rfl rfl ?_; refine Ops.ibin igeq rfl rfl rfl rfl ?_; refine Ops.nil (hK _ _ ?_); clear hK K; refine Fin.then ?_)
  refine St.condP rfl (fun h => ?_) (fun h => ?_)
  · obtain ⟨i, rfl⟩ : ∃ i, q = i + 1 := ⟨q - 1, by omega⟩
    have e1 : (((i + 1 : Nat) : Int) - 1) = (i : Int) := by omega
    have e2 : (i : Int).toNat = i := Int.toNat_natCast i
    have bx := (limbs_ok n).get i
    simp only [BB] at bx
    rw [pre_succ, Int.pow_succ] at hvq
    have hp := (pre_bd (limbs_ok n) i).1
    have hpw : (1 : Int) ≤ BB ^ i := Int.pow_pos (by decide)
    have key : v * 1073741824 + (limbs n).getD i 0 ≤ 4611686018427387904 := by
      have e : (v * 1073741824 + (limbs n).getD i 0) * BB ^ i + pre (limbs n) i = n := by
        rw [← hvq]; simp only [BB]; grind
      have : (v * 1073741824 + (limbs n).getD i 0) * 1 ≤ (v * 1073741824 + (limbs n).getD i 0) * BB ^ i := Int.mul_le_mul_of_nonneg_left hpw (by omega)
      omega
    rw [e1]
    (refine St.skip ?_; refine Fin.then ?_; refine St.seq ?_; refine St.block ?_; refine St.seq ?_; refine St.seq ?_; refine St.regionK (fun K hK => ?_); refine Ops.move rfl rfl rfl ?_; refine Ops.move rfl rfl rfl ?_; refine Ops.move rfl rfl rfl ?_; refine Ops.idxF rfl rfl rfl (by with_reducible first | exact sNat | exact sInts) (by omega) (ints_at (by omega) (by omega)) rfl ?_; refine Ops.ld1F rfl rfl rfl (by with_reducible first | exact lInt | exact lNat | exact lBool | exact lInts) rfl ?_)
    rw [e2]
    (refine Ops.ibin (isub (by omega) (by omega)) rfl rfl rfl rfl ?_)
    refine Ops.ibin ishr30 rfl rfl rfl rfl ?_
    (refine Ops.ibin igtr rfl rfl rfl rfl ?_; refine Ops.nil (hK _ _ ?_); clear hK K; refine Fin.then ?_)
    refine St.condP rfl (fun h2 => ?_) (fun h2 => ?_)
    · omega
    clear h2
    (refine St.skip ?_; refine Fin.then ?_; refine St.regionK (fun K hK => ?_); refine Ops.move rfl rfl rfl ?_)
    refine Ops.ibin (ishl30 (by omega) (by omega)) rfl rfl rfl rfl ?_
    (refine Ops.move rfl rfl rfl ?_; refine Ops.move rfl rfl rfl ?_; refine Ops.idxF rfl rfl rfl (by with_reducible first | exact sNat | exact sInts) (by omega) (ints_at (by omega) (by omega)) rfl ?_; refine Ops.ld1F rfl rfl rfl (by with_reducible first | exact lInt | exact lNat | exact lBool | exact lInts) rfl ?_)
    rw [e2]
    refine Ops.ibin (ior30 (by omega) (by omega) (by omega) (by omega)) rfl rfl rfl rfl ?_
    (refine Ops.assign rfl rfl rfl ?_; refine Ops.nil (hK _ _ ?_); clear hK K; refine Fin.then ?_; refine St.regionK (fun K hK => ?_); refine Ops.move rfl rfl rfl ?_; refine Ops.ibin (isub (by omega) (by omega)) rfl rfl rfl rfl ?_; refine Ops.assign rfl rfl rfl ?_; refine Ops.nil (hK _ _ ?_); clear hK K; refine Fin.thenN ?_)
    refine Fin.next (i, v * 1073741824 + (limbs n).getD i 0) (by dsimp only; omega) ⟨by dsimp only; omega, by dsimp only; omega, ?_⟩ (by exact Entails.of rfl ⟨rfl, rfl, rfl, trivial⟩)
    dsimp only
    rw [← hvq]; simp only [BB]; grind
  · have hq0 : q = 0 := by omega
    subst hq0
    have e : v = n := by rw [pre_zero] at hvq; simpa using hvq
    (refine St.exit ?_; refine Fin.then ?_; refine St.seq ?_; refine St.regionK (fun K hK => ?_); refine Ops.move rfl rfl rfl ?_; refine Ops.assign rfl rfl rfl ?_; refine Ops.assign rfl rfl rfl ?_; refine Ops.nil (hK _ _ ?_); clear hK K; refine Fin.then ?_; refine St.ret ?_)
    refine Fin.ret [_, _] rfl (AllRes.tmp rfl (AllRes.tmp rfl AllRes.nil)) (by rw [e]; rfl) rfl
theorem goInt : InGo Try.prog 78 := InGo.of Try.func78 (by kernel_rfl) (by kernel_rfl)

/-- A quotient, rounded down or up. -/
def rnd (a b : Nat) (up : Bool) : Nat := if up = true ∧ a % b ≠ 0 then a / b + 1 else a / b

set_option maxHeartbeats 2000000 in
theorem round_ok (f : Fr) (up : Bool) (h1 : Sz f.num) (h2 : 0 < f.den) (h3 : f.den < 1073741824) : Ok Try.prog 77 [fracC f, boolC up] (.fr (tupT [natC (rnd f.num f.den up), intC 0])) := by
  unfold Sz at h1
  refine Ok.enter Try.func77 rfl _ Try.ntmps77 rfl ?_
  intro S w
  (refine St.seq ?_; refine St.regionK (fun K hK => ?_); refine Ops.boxN 0 rfl rfl rfl rfl rfl rfl rfl ?_; refine Ops.assign rfl rfl rfl ?_; refine Ops.assign rfl rfl rfl ?_; refine Ops.nil (hK _ _ ?_); clear hK K; refine Fin.then ?_; refine St.seq ?_; refine St.regionK (fun K hK => ?_); refine Ops.fldO rfl rfl rfl (by with_reducible first | exact fF0 | exact fF1 | exact fF2 | exact fR0 | exact fR1) rfl ?_; refine Ops.ld1A rfl rfl rfl rfl rfl (by with_reducible first | exact lInt | exact lNat | exact lBool | exact lInts) rfl ?_; refine Ops.fldO rfl rfl rfl (by with_reducible first | exact fF0 | exact fF1 | exact fF2 | exact fR0 | exact fR1) rfl ?_; refine Ops.ld1A rfl rfl rfl rfl rfl (by with_reducible first | exact lInt | exact lNat | exact lBool | exact lInts) rfl ?_)
  refine Ops.call goDivMod (DivMod_small f.num f.den h2 h3 (by omega)) rfl rfl rfl rfl ?_
  (refine Ops.move rfl rfl rfl ?_; refine Ops.extract rfl rfl rfl rfl ?_; refine Ops.extract rfl rfl rfl rfl ?_; refine Ops.extract rfl rfl rfl rfl ?_; refine Ops.assign rfl rfl rfl ?_; refine Ops.assign rfl rfl rfl ?_; refine Ops.assign rfl rfl rfl ?_; refine Ops.nil (hK _ _ ?_); clear hK K; refine Fin.then ?_; refine St.seq ?_; refine St.seq ?_; refine St.regionK (fun K hK => ?_); refine Ops.move rfl rfl rfl ?_; refine Ops.ibin ieql rfl rfl rfl rfl ?_; refine Ops.move rfl rfl rfl ?_; refine Ops.move rfl rfl rfl ?_; refine Ops.pickT rfl rfl rfl rfl ?_; refine Ops.move rfl rfl rfl ?_)
  refine Ops.split 23 rfl (fun hu => ?_) (fun hu => ?_)
  · (refine Ops.move rfl rfl rfl ?_; refine Ops.lenF rfl rfl (by with_reducible first | exact sNat.und | exact sInts.und) (List.length_map ..) rfl ?_; refine Ops.ibin igtr rfl rfl rfl rfl ?_; refine Ops.pickT rfl rfl rfl rfl ?_; refine Ops.nil (hK _ _ ?_); clear hK K; refine Fin.then ?_)
    refine St.condP rfl (fun h => ?_) (fun h => ?_)
    · have hr : f.num % f.den ≠ 0 := limbs_len_pos.mp (by omega)
      have hl := div_len (b := f.den) h1
      (refine St.regionK (fun K hK => ?_); refine Ops.move rfl rfl rfl ?_)
      refine Ops.lit1 rfl rfl sNat rfl rfl rfl ?_
      refine Ops.call goAdd (Add_list (limbs (f.num / f.den)) [1] (by omega) (by simp) (limbs_ok _) (OKL.cons (by decide) OKL.nil)) rfl rfl rfl rfl ?_
      rw [val_limbs, show val [1] = 1 by decide, show (((f.num / f.den : Nat) : Int) + 1).toNat = f.num / f.den + 1 by generalize f.num / f.den = z; omega]
      (refine Ops.move rfl rfl rfl ?_; refine Ops.extract rfl rfl rfl rfl ?_; refine Ops.extract rfl rfl rfl rfl ?_; refine Ops.assign rfl rfl rfl ?_; refine Ops.assign rfl rfl rfl ?_; refine Ops.nil (hK _ _ ?_); clear hK K; refine Fin.then ?_; refine St.seq ?_; refine St.regionK (fun K hK => ?_); refine Ops.move rfl rfl rfl ?_; refine Ops.move rfl rfl rfl ?_; refine Ops.assign rfl rfl rfl ?_; refine Ops.assign rfl rfl rfl ?_; refine Ops.nil (hK _ _ ?_); clear hK K; refine Fin.then ?_; refine St.ret ?_)
      refine Fin.ret [_, _] rfl (AllRes.tmp rfl (AllRes.tmp rfl AllRes.nil)) (by unfold rnd; rw [if_pos ⟨hu, hr⟩]; rfl) rfl
    · have hr : ¬ (f.num % f.den ≠ 0) := fun h' => h (by have := limbs_len_pos.mpr h'; omega)
      (refine St.skip ?_; refine Fin.then ?_; refine St.seq ?_; refine St.regionK (fun K hK => ?_); refine Ops.move rfl rfl rfl ?_; refine Ops.move rfl rfl rfl ?_; refine Ops.assign rfl rfl rfl ?_; refine Ops.assign rfl rfl rfl ?_; refine Ops.nil (hK _ _ ?_); clear hK K; refine Fin.then ?_; refine St.ret ?_)
      refine Fin.ret [_, _] rfl (AllRes.tmp rfl (AllRes.tmp rfl AllRes.nil)) (by unfold rnd; rw [if_neg (fun h' => hr h'.2)]; rfl) rfl
  · (refine Ops.skip rfl rfl rfl ?_; refine Ops.skip rfl rfl rfl ?_; refine Ops.skip rfl rfl rfl ?_; refine Ops.pickF rfl rfl rfl rfl ?_; refine Ops.nil (hK _ _ ?_); clear hK K; refine Fin.then ?_; refine St.condF rfl ?_; refine St.skip ?_; refine Fin.then ?_; refine St.seq ?_; refine St.regionK (fun K hK => ?_); refine Ops.move rfl rfl rfl ?_; refine Ops.move rfl rfl rfl ?_; refine Ops.assign rfl rfl rfl ?_; refine Ops.assign rfl rfl rfl ?_; refine Ops.nil (hK _ _ ?_); clear hK K; refine Fin.then ?_; refine St.ret ?_)
    refine Fin.ret [_, _] rfl (AllRes.tmp rfl (AllRes.tmp rfl AllRes.nil)) (by unfold rnd; rw [if_neg (fun h' => by rw [hu] at h'; cases h'.1)]; rfl) rfl
theorem goround : InGo Try.prog 77 := InGo.of Try.func77 (by kernel_rfl) (by kernel_rfl)

set_option maxHeartbeats 2000000 in
theorem Fwhole_ok (f : Fr) (up : Bool) (h1 : f.num < 4611686018427387904) (h2 : 0 < f.den) (h3 : f.den < 1073741824) : Ok Try.prog 58 [fracC f, boolC up] (.fr (tupT [intC (sg f.neg (rnd f.num f.den (up != f.neg))), intC 0])) := by
  have hs : Sz f.num := Sz.of (Nat.lt_of_lt_of_le h1 (by decide))
  have hr : rnd f.num f.den (up != f.neg) ≤ 4611686018427387904 := by
    have := Nat.div_le_self f.num f.den
    unfold rnd; split <;> omega
  refine Ok.enter Try.func58 rfl _ Try.ntmps58 rfl ?_
  intro S w
  (refine St.seq ?_; refine St.regionK (fun K hK => ?_); refine Ops.boxN 0 rfl rfl rfl rfl rfl rfl rfl ?_; refine Ops.assign rfl rfl rfl ?_; refine Ops.assign rfl rfl rfl ?_; refine Ops.nil (hK _ _ ?_); clear hK K; refine Fin.then ?_; refine St.seq ?_; refine St.regionK (fun K hK => ?_); refine Ops.ldNO (n := 3) rfl rfl rfl rfl rfl (by with_reducible exact lFrac) rfl ?_; refine Ops.move rfl rfl rfl ?_; refine Ops.fldO rfl rfl rfl (by with_reducible first | exact fF0 | exact fF1 | exact fF2 | exact fR0 | exact fR1) rfl ?_; refine Ops.ld1A rfl rfl rfl rfl rfl (by with_reducible first | exact lInt | exact lNat | exact lBool | exact lInts) rfl ?_)
  refine Ops.bne rfl rfl rfl uBool rfl ?_
  rw [dne]
  skip
  refine Ops.call goround (round_ok f _ hs h2 h3) rfl rfl rfl rfl ?_
  (refine Ops.move rfl rfl rfl ?_; refine Ops.extract rfl rfl rfl rfl ?_; refine Ops.extract rfl rfl rfl rfl ?_; refine Ops.assign rfl rfl rfl ?_; refine Ops.assign rfl rfl rfl ?_; refine Ops.nil (hK _ _ ?_); clear hK K; refine Fin.then ?_; refine St.seq ?_; refine St.seq ?_; refine St.regionK (fun K hK => ?_); refine Ops.move rfl rfl rfl ?_; refine Ops.ibin ineq rfl rfl rfl rfl ?_; refine Ops.nil (hK _ _ ?_); clear hK K; refine Fin.then ?_; refine St.condF rfl ?_; refine St.skip ?_; refine Fin.then ?_; refine St.seq ?_; refine St.regionK (fun K hK => ?_); refine Ops.move rfl rfl rfl ?_)
  refine Ops.call goInt (Int_ok _ hr) rfl rfl rfl rfl ?_
  (refine Ops.move rfl rfl rfl ?_; refine Ops.extract rfl rfl rfl rfl ?_; refine Ops.extract rfl rfl rfl rfl ?_; refine Ops.assign rfl rfl rfl ?_; refine Ops.assign rfl rfl rfl ?_; refine Ops.nil (hK _ _ ?_); clear hK K; refine Fin.then ?_; refine St.seq ?_; refine St.seq ?_; refine St.regionK (fun K hK => ?_); refine Ops.move rfl rfl rfl ?_; refine Ops.ibin ineq rfl rfl rfl rfl ?_; refine Ops.nil (hK _ _ ?_); clear hK K; refine Fin.then ?_; refine St.condF rfl ?_; refine St.skip ?_; refine Fin.then ?_; refine St.seq ?_; refine St.seq ?_; refine St.regionK (fun K hK => ?_); refine Ops.fldO rfl rfl rfl (by with_reducible first | exact fF0 | exact fF1 | exact fF2 | exact fR0 | exact fR1) rfl ?_; refine Ops.ld1A rfl rfl rfl rfl rfl (by with_reducible first | exact lInt | exact lNat | exact lBool | exact lInts) rfl ?_; refine Ops.nil (hK _ _ ?_); clear hK K; refine Fin.then ?_)
  refine St.condB rfl (fun hn => ?_) (fun hn => ?_)
  · (refine St.regionK (fun K hK => ?_); refine Ops.move rfl rfl rfl ?_)
    refine Ops.ineg rfl rfl (by omega) (by omega) rfl ?_
    (refine Ops.assign rfl rfl rfl ?_; refine Ops.nil (hK _ _ ?_); clear hK K; refine Fin.then ?_; refine St.seq ?_; refine St.regionK (fun K hK => ?_); refine Ops.move rfl rfl rfl ?_; refine Ops.assign rfl rfl rfl ?_; refine Ops.assign rfl rfl rfl ?_; refine Ops.nil (hK _ _ ?_); clear hK K; refine Fin.then ?_; refine St.ret ?_)
    refine Fin.ret [_, _] rfl (AllRes.tmp rfl (AllRes.tmp rfl AllRes.nil)) (by unfold sg; rw [hn]; rfl) rfl
  · (refine St.skip ?_; refine Fin.then ?_; refine St.seq ?_; refine St.regionK (fun K hK => ?_); refine Ops.move rfl rfl rfl ?_; refine Ops.assign rfl rfl rfl ?_; refine Ops.assign rfl rfl rfl ?_; refine Ops.nil (hK _ _ ?_); clear hK K; refine Fin.then ?_; refine St.ret ?_)
    refine Fin.ret [_, _] rfl (AllRes.tmp rfl (AllRes.tmp rfl AllRes.nil)) (by unfold sg; rw [hn]; rfl) rfl
theorem goFwhole : InGo Try.prog 58 := InGo.of Try.func58 (by kernel_rfl) (by kernel_rfl)

theorem floor_sg (n : Bool) (a b : Nat) (hb : 0 < b) : sg n (rnd a b n) = sg n a / (b : Int) := by
  unfold sg rnd
  cases n
  · simp
  · simp only [if_true, true_and]
    have e := Nat.div_add_mod a b
    have hm := Nat.mod_lt a hb
    split
    · rename_i h
      symm
      rw [Int.ediv_eq_iff_of_pos (by omega)]
      constructor
      · have : ((b * (a / b) + a % b : Nat) : Int) = a := by rw [e]
        rw [Int.natCast_add, Int.natCast_mul] at this
        rw [Int.natCast_add]
        generalize ((a / b : Nat) : Int) = z at *
        have : (b : Int) * z + ((a % b : Nat) : Int) = a := this
        grind
      · have : ((b * (a / b) + a % b : Nat) : Int) = a := by rw [e]
        rw [Int.natCast_add, Int.natCast_mul] at this
        rw [Int.natCast_add]
        generalize ((a / b : Nat) : Int) = z at *
        grind
    · rename_i h
      have h0 : a % b = 0 := by omega
      rw [Int.neg_ediv_of_dvd (Int.natCast_dvd_natCast.mpr (Nat.dvd_of_mod_eq_zero h0)), Int.natCast_ediv]

theorem FFloor_ok (f : Fr) (h1 : f.num < 4611686018427387904) (h2 : 0 < f.den) (h3 : f.den < 1073741824) : Ok Try.prog 35 [fracC f] (.fr (tupT [intC (sg f.neg f.num / (f.den : Int)), intC 0])) := by
  have h := Fwhole_ok f false h1 h2 h3
  rw [Bool.false_bne, floor_sg _ _ _ h2] at h
  refine Ok.enter Try.func35 rfl _ Try.ntmps35 rfl ?_
  intro S w
  (refine St.seq ?_; refine St.regionK (fun K hK => ?_); refine Ops.boxN 0 rfl rfl rfl rfl rfl rfl rfl ?_; refine Ops.assign rfl rfl rfl ?_; refine Ops.assign rfl rfl rfl ?_; refine Ops.nil (hK _ _ ?_); clear hK K; refine Fin.then ?_; refine St.seq ?_; refine St.regionK (fun K hK => ?_); refine Ops.ldNO (n := 3) rfl rfl rfl rfl rfl (by with_reducible exact lFrac) rfl ?_)
  refine Ops.call goFwhole h rfl rfl rfl rfl ?_
  (refine Ops.extract rfl rfl rfl rfl ?_; refine Ops.extract rfl rfl rfl rfl ?_; refine Ops.assign rfl rfl rfl ?_; refine Ops.assign rfl rfl rfl ?_; refine Ops.nil (hK _ _ ?_); clear hK K; refine Fin.then ?_; refine St.ret ?_)
  refine Fin.ret [_, _] rfl (AllRes.tmp rfl (AllRes.tmp rfl AllRes.nil)) rfl rfl
theorem goFFloor : InGo Try.prog 35 := InGo.of Try.func35 (by kernel_rfl) (by kernel_rfl)

end Go.Proofs.Ytgpkpmhdfcopgaa
