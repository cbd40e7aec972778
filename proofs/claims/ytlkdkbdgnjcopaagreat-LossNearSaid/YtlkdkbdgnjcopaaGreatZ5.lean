/- The proof that LossNear holds for every input, without conditions: part 5 of 5. -/
import Derived.Test.YtlkdkbdgnjcopaaGreatZ4
import Derived.Test.YtlkdkbdgnjcopaaGreatRows
import Derived.ProofKit
import Derived.OpenShut
import Derived.ShutString
import Derived.ChangeOld
namespace Go.Proofs.YtlkdkbdgnjcopaaGreat
open Go.Own Go.Limbs
attribute [local irreducible] St Ops Go.Own.Fin Ok
theorem top_step {A : List Int} {i : Nat} {vo rest b : Int} (hv : vo * b + rest * BB ^ (i + 1) = val A - pre A (i + 1)) :
    (vo + (rest * 1073741824 + A.getD i 0) / b * BB ^ i) * b + (rest * 1073741824 + A.getD i 0) % b * BB ^ i = val A - pre A i := by
  rw [Zj, Int.pow_succ] at hv; have e := Int.mul_ediv_add_emod (rest * 1073741824 + A.getD i 0) b; simp only [BB] at *; generalize (rest * 1073741824 + A.getD i 0) / b = q at *; generalize (rest * 1073741824 + A.getD i 0) % b = m at *
  grind
set_option maxHeartbeats 2000000 in
theorem small_ok (a : Nat) (b : Int) (hb : 0 < b) (hb2 : b < BB) (hl : (limbs a).length ≤ 256) : Ok Tryz.prog 175 [natC a, intC b] (.fr (tupT [natC ((a : Int) / b).toNat, intC ((a : Int) % b)])) := by
  simp only [BB] at hb2
  refine Ok.enter Tryz.func175 J _ Tryz.ntmps175 J ?_
  intro S w; refine Qw (Qx fun K hK => ?_); refine Qv J J J (Qv J J J (Qj (hK _ _ ?_))); refine Qz (Qw (Qx fun K hK => ?_)); refine Qq J J J (Qd J J sNat.und (List.length_map ..) J (Ops.make 0 (limbs a).length J J J J sNat (by omega) (by omega) J J J ?_)); rw [ints_made]; refine Qv J J J (Qj (hK _ _ ?_)); refine Qz (Qw (Qx fun K hK => ?_)); refine Qv J J J (Qj (hK _ _ ?_)); refine Qz (Qw (Qw (Qx fun K hK => ?_))); refine Qq J J J (Qd J J sNat.und (List.length_map ..) J (Qk (isub (by omega) (by omega)) J J J J ?_)); refine Qv J J J (Qj (hK _ _ ?_)); refine Qz (Q4 ?_)
  refine Xz (α := Nat × List Int × Int) (fun s => s.1 ≤ (limbs a).length ∧ s.2.1.length = (limbs a).length ∧ OKL s.2.1 ∧ (∀ j, j < s.1 → s.2.1.getD j 0 = 0) ∧ 0 ≤ s.2.2 ∧ s.2.2 < b ∧ val s.2.1 * b + s.2.2 * BB ^ s.1 = val (limbs a) - pre (limbs a) s.1)
    (fun s => [(0, .ct (natC a)), (1, .ct (intC b)), (6, .own 0), (7, .ct (intC s.2.2)), (8, .ct (intC ((s.1 : Int) - 1)))])
    (fun s => [(0, .row 3 1 (ints s.2.1))]) (fun s => s.1) ((limbs a).length, List.replicate (limbs a).length 0, 0) ⟨Nat.le_refl _, by simp, OKL.zeros _, ?_, Int.le_refl _, hb, ?_⟩ (by exact Qu J ⟨rfl, rfl, rfl, rfl, rfl, trivial⟩) ?_
  · intro j _; simp [List.getD_eq_getElem?_getD, List.getElem?_replicate]; split <;> rfl
  · dsimp only; rw [val_zeros, Yx (Nat.le_refl _)]; simp
  rintro ⟨q, zs, rest⟩ ⟨hq, hzl, hok, hz, hr0, hr1, hv⟩
  dsimp only at hq hzl hok hz hr0 hr1 hv ⊢; refine Qw (Qw (Qx fun K hK => ?_)); refine Qq J J J (Qk igeq J J J J (Qj (hK _ _ ?_))); refine Qz (Q2 J (fun h => ?_) (fun h => ?_))
  · obtain ⟨i, rfl⟩ : ∃ i, q = i + 1 := ⟨q - 1, by omega⟩
    have e1 : (((i + 1 : Nat) : Int) - 1) = (i : Int) := by omega
    have e2 : (i : Int).toNat = i := Int.toNat_natCast i
    have e3 : (i : Int).toNat * 1 = i := by omega
    have bx := (Xm a).get i; simp only [BB] at bx; rw [e1]; refine Q1 (Qz (Qw (Q4 (Qw (Qx fun K hK => ?_))))); refine Qq J J J (Qk (ishl30 (by omega) (by omega)) J J J J ?_); refine Qq J J J (Qq J J J (Qg J J J sNat (by omega) (X5 (by omega) (by omega)) J ?_))
    refine Xy J J J lInt J ?_
    rw [e2]
    refine Qk (ior30 (by omega) (by omega) (by omega) (by omega)) J J J J ?_
    refine Qv J J J (Qj (hK _ _ ?_)); refine Qz (Xu mixed 9 (.p 0 (.p 1 (.p 2 (.p 3 (.p 4 (.p 5 (.p 6 (.p 7 (.p 8 (.a 9 (.p 10 .done))))))))))) (by kernel_rfl) (fun K hK => ?_)); refine Qq J J J (Qq J J J (Qq J J J (Qq J J J (Qk (iquo (by omega) (by omega) (by omega)) J J J J ?_)))); refine Qq J J J (Qq J J J (Qk (irem (by omega) (by omega)) J J J J ?_)); skip
    refine Xi (limbs a).length J J J (by simp; omega) J sNat (by omega) (by omega) J ?_
    rw [e3]
    refine Xh J J J J J zInt (by simp [Ent.cs]; omega) ?_
    simp only [Ent.setc, ints_set]; refine Qv J J J (Qj (hK _ _ ?_)); refine Qz (Qx fun K hK => ?_); refine Qq J J J (Qk (isub (by omega) (by omega)) J J J J ?_); refine Qv J J J (Qj (hK _ _ ?_))
    refine Q3 ?_
    have d1 : 0 ≤ (rest * 1073741824 + (limbs a).getD i 0) / b := Int.ediv_nonneg (by omega) (by omega)
    have d2 : (rest * 1073741824 + (limbs a).getD i 0) / b < 1073741824 := by
      apply Int.ediv_lt_of_lt_mul hb
      have : (rest + 1) * 1073741824 ≤ b * 1073741824 := Int.mul_le_mul_of_nonneg_right (by omega) (by decide); rw [Int.mul_comm 1073741824 b]; omega
    have d3 := Int.emod_nonneg (rest * 1073741824 + (limbs a).getD i 0) (b := b) (by omega); have d4 := Int.emod_lt_of_pos (rest * 1073741824 + (limbs a).getD i 0) hb; refine Q7 (i, zs.set i ((rest * 1073741824 + (limbs a).getD i 0) / b), (rest * 1073741824 + (limbs a).getD i 0) % b) (by dsimp only; omega) ⟨by dsimp only; omega, by simp [hzl], ?_, ?_, d3, d4, ?_⟩ (by exact Qu J ⟨rfl, rfl, rfl, rfl, rfl, trivial⟩)
    all_goals dsimp only
    · exact hok.set _ (by simp only [BB]; omega)
    · intro j hj; rw [getD_set (by omega), if_neg (by omega)]; exact hz j (by omega)
    · rw [val_set (by omega), hz i (by omega), Int.sub_zero]; exact top_step hv
  · have hq0 : q = 0 := by omega
    subst hq0
    have e4 : val zs * b + rest = a := by rw [Z8, ZW] at hv; simpa using hv
    have e5 : (a : Int) / b = val zs ∧ (a : Int) % b = rest := by
      rw [← e4]; constructor
      · rw [Int.add_comm, Int.add_mul_ediv_right _ _ (by omega), Int.ediv_eq_zero_of_lt hr0 hr1]; omega
      · rw [Int.add_comm, Int.add_mul_emod_self_right, Int.emod_eq_of_lt hr0 hr1]
    rw [e5.1, e5.2]; refine Qn (Qz (Qw (Qx fun K hK => ?_))); refine Qq J J J (ZJ 0 _ J (Zk _ _) X7 (QW gotrim (trim_ok _ (by omega)) J J J J ?_)); rw [Z3 hok]; refine Qq J J J (Qv J J J (Qv J J J (Qj (hK _ _ ?_)))); refine Qz (Q0 ?_); refine QU [_, _] rfl (QQ J (QQ J QX)) J J
theorem gosmall : InGo Tryz.prog 175 := InGo.of Tryz.func175 (by kernel_rfl) (by kernel_rfl)
theorem ints_ones (xs : List Int) : ones (xs.map intC) = true := by
  induction xs with
  | nil => rfl
  | cons x xs ih => simp [ones, CT.one, Value.oneCell', ih]
theorem Clone_ok (xs : List Int) (hl : xs.length ≤ 1000000) : Ok Tryz.prog 172 [intsC xs] (intsC xs) := by
  refine Ok.enter Tryz.func172 J _ Tryz.ntmps172 J ?_
  intro S w; refine Qw (Qx fun K hK => ?_); refine Qv J J J (Qj (hK _ _ ?_)); refine Qz (Qw (Qw (Qx fun K hK => ?_))); refine Qq J J J (Ops.eqNil J J sNat.und J (fun b hb => ?_)); refine Qj (hK _ _ ?_); refine Qz (XX J (fun h => ?_) (fun h => ?_))
  · have h0 := hb h
    have : xs = [] := by simpa using h0
    subst this; refine Qw (Qx fun K hK => ?_); refine Qv J J J (Qj (hK _ _ ?_)); refine Qz (Q0 (QY ?_)); refine QU [_] rfl (AllRes.nilS 1 J QX) J J
  · clear hb h; refine Q1 (Qz (Qw (Qx fun K hK => ?_))); refine Ops.lit0E 0 J J J sNat J J J (Qq J J J (Ops.append 0 (ints xs) J J J J sNat J ?_ (by simp; omega) (by simp; omega) ?_ J ?_))
    · rw [flat_one]; exact ints_ones xs
    · rw [flat_one]; rfl
    refine Qv J J J (Qj (hK _ _ ?_)); refine Qz (Q0 ?_); refine Fin.freeze 0 _ J (Zk _ _) X7 (QU [_] rfl (QQ J QX) J J)
theorem goClone : InGo Tryz.prog 172 := InGo.of Tryz.func172 (by kernel_rfl) (by kernel_rfl)
theorem natC_zero : natC 0 = intsC [] := by show intsC (limbs 0) = intsC []; rw [limbs_zero]
theorem ZU {b : Nat} (h0 : 0 < b) (h : b < 1073741824) : limbs b = [(b : Int)] := by
  rw [limbs_pos (by omega), Nat.mod_eq_of_lt h, Nat.div_eq_of_lt h, limbs_zero]
set_option maxHeartbeats 2000000 in
theorem DivMod_small (a b : Nat) (h0 : 0 < b) (hb : b < 1073741824) (hl : (limbs a).length ≤ 256) : Ok Tryz.prog 138 [natC a, natC b] (.fr (tupT [natC (a / b), natC (a % b), intC 0])) := by
  have hlb : (limbs b).length = 1 := by rw [ZU h0 hb]; rfl
  refine Ok.enter Tryz.func138 J _ Tryz.ntmps138 J ?_
  intro S w; refine Qw (Qx fun K hK => ?_); refine Qv J J J (Qv J J J (Qv J J J (Qj (hK _ _ ?_)))); refine Qz (Qw (Qx fun K hK => ?_)); refine Qq J J J (QW gotrim (trim_ok _ (by omega)) J J J J ?_); rw [trim_of_limbs]; refine Qv J J J (Qj (hK _ _ ?_)); refine Qz (Qw (Qx fun K hK => ?_)); refine Qq J J J (Qd J J sNat.und (List.length_map ..) J (Qv J J J (Qj (hK _ _ ?_)))); refine Qz (Qw (Q4 (Qw (Qx fun K hK => ?_)))); refine Qq J J J (Qk ieql J J J J (Qv J J J (Qj (hK _ _ ?_)))); refine Qz (Q2 J (fun h => ?_) (fun h => ?_))
  · omega
  clear h; refine Qw (Qx fun K hK => ?_); refine Qq J J J (Qq J J J (QW goCompare (Compare_ok a b (by omega) (by omega)) J J J J ?_)); refine Qk ilss J J J J (Qv J J J (Qj (hK _ _ ?_))); refine Qz (Q2 J (fun h => ?_) (fun h => ?_))
  · have hlt : a < b := by
      rw [Xn] at h; split at h
      · omega
      · split at h <;> omega
    refine Qw (Qx fun K hK => ?_); refine Qq J J J (QW goClone (Clone_ok _ (by omega)) J J J J ?_); refine Qv J J J (Qv J J J (Qv J J J (Qj (hK _ _ ?_)))); refine Qz (Q0 (Q8 (QY ?_))); rw [Nat.div_eq_of_lt hlt, Nat.mod_eq_of_lt hlt, natC_zero]; refine QU [_, _, _] rfl (AllRes.nilS 1 J (QQ J (QQ J QX))) J J
  clear h; refine Qw (Qx fun K hK => ?_); refine Qq J J J (Qk ieql J J J J (Qv J J J (Qj (hK _ _ ?_)))); refine Qz (Q2 J (fun h => ?_) (fun h => ?_))
  · have e0 : (limbs b).getD (0 : Int).toNat 0 = b := by rw [ZU h0 hb]; rfl
    refine Qw (Qx fun K hK => ?_); refine Qq J J J (Qq J J J (Qg J J J sNat (by omega) (X5 (by omega) (by omega)) J ?_))
    refine Xy J J J lInt J ?_
    rw [e0]
    refine QW gosmall (small_ok a b (by omega) (by simp only [BB]; omega) hl) J J J J ?_
    have e1 : ((a : Int) / (b : Int)).toNat = a / b := by rw [← Int.natCast_ediv, Int.toNat_natCast]
    rw [e1]; refine Qq J J J (Qf J J J J (Qf J J J J (Qv J J J (Qv J J J (Qj (hK _ _ ?_)))))); refine Qz (Qw (Qx fun K hK => ?_)); refine Qq J J J (Qq J J J (Xp J J sNat J J J (QW gotrim (trim_ok [(a : Int) % b] (by simp)) J J J J ?_)))
    have e2 : trimL [(a : Int) % b] = limbs (a % b) := by
      have hm := Nat.mod_lt a h0; rw [Z3 (OKL.cons (by simp only [BB]; omega) OKL.nil)]; simp only [val]; congr 1
    rw [e2]; refine Qv J J J (Qv J J J (Qv J J J (Qj (hK _ _ ?_)))); refine Qz (Q0 (Q8 (QY ?_))); refine QU [_, _, _] rfl (QQ J (QQ J (QQ J QX))) J J
  · omega
theorem goDivMod : InGo Tryz.prog 138 := InGo.of Tryz.func138 (by kernel_rfl) (by kernel_rfl)
set_option maxHeartbeats 2000000 in
theorem Gcd_small (a b : Nat) (hb : b < 1073741824) (hl : (limbs a).length ≤ 256) : Ok Tryz.prog 137 [natC a, natC b] (natC (Nat.gcd a b)) := by
  have hlb : (limbs b).length ≤ 1 := XJ (k := 1) (by omega)
  refine Ok.enter Tryz.func137 J _ Tryz.ntmps137 J ?_
  intro S w; refine Qw (Qx fun K hK => ?_); refine Qv J J J (Qj (hK _ _ ?_)); refine Qz (Qw (Qw (Qx fun K hK => ?_))); refine Qq J J J (QW goClone (Clone_ok _ (by omega)) J J J J ?_); refine Qq J J J (QW goClone (Clone_ok _ (by omega)) J J J J ?_); refine Qv J J J (Qv J J J (Qj (hK _ _ ?_))); refine Qz (Q4 ?_)
  refine Xz (α := Nat × Nat) (fun s => s.2 < 1073741824 ∧ (limbs s.1).length ≤ 256 ∧ Nat.gcd s.1 s.2 = Nat.gcd a b)
    (fun s => [(0, .ct (natC s.1)), (1, .ct (natC s.2))]) (fun _ => []) (fun s => s.2) (a, b) ⟨hb, hl, rfl⟩ (by exact Qu J ⟨rfl, rfl, trivial⟩) ?_
  rintro ⟨p, q⟩ ⟨hq, hp, hg⟩
  dsimp only at hq hp hg ⊢; refine Qw (Qw (Qx fun K hK => ?_)); refine Qq J J J (Qd J J sNat.und (List.length_map ..) J (Qk igtr J J J J (Qj (hK _ _ ?_)))); refine Qz (Q2 J (fun h => ?_) (fun h => ?_))
  · have hq0 : 0 < q := by
      rcases Nat.eq_zero_or_pos q with h0 | h0
      · subst h0; rw [limbs_zero] at h; simp at h
      · exact h0
    refine Q1 (Qz (Q4 (Qw (Qx fun K hK => ?_)))); refine Qq J J J (Qq J J J (QW goDivMod (DivMod_small p q hq0 hq hp) J J J J (Qq J J J (Qf J J J J (Qf J J J J (Qf J J J J (Qv J J J (Qv J J J (Qv J J J (Qj (hK _ _ ?_))))))))))); refine Qz (Qw (Qw (Qx fun K hK => ?_))); refine Qq J J J (Qk ineq J J J J (Qj (hK _ _ ?_))); refine Qz (Xx J (Q1 (Qz (Qx fun K hK => ?_)))); refine Qq J J J (Qq J J J (Qv J J J (Qv J J J (Qj (hK _ _ ?_))))); refine Qb (Q3 ?_); have hm := Nat.mod_lt p hq0; refine Q7 (q, p % q) hm ⟨by dsimp only; omega, ?_, ?_⟩ (by exact Qu J ⟨rfl, rfl, trivial⟩)
    · have := XJ (n := q) (k := 1) (by omega); dsimp only; omega
    · dsimp only; rw [← hg, Nat.gcd_comm, ← Nat.gcd_rec, Nat.gcd_comm]
  · have hq0 : q = 0 := Yz (List.eq_nil_of_length_eq_zero (by omega))
    have e : p = Nat.gcd a b := by rw [← hg, hq0, Nat.gcd_zero_right]
    rw [← e]; refine Qn (Qz (Qw (Qx fun K hK => ?_))); refine Qq J J J (Qv J J J (Qj (hK _ _ ?_))); refine Qz (Q0 ?_); refine QU [_] rfl (QQ J QX) J J
theorem goGcd : InGo Tryz.prog 137 := InGo.of Tryz.func137 (by kernel_rfl) (by kernel_rfl)
end Go.Proofs.YtlkdkbdgnjcopaaGreat
namespace Go.Proofs.YtlkdkbdgnjcopaaGreat
open Go.Own Go.Limbs
theorem uBool : Tryz.prog.underlying 4 = some .bool := Tryz.underlying4
theorem zvFrac : (Tryz.prog.info? 53).map (·.zero) = some (some (.agg #[.bool false, .slice none 0 0, .slice none 0 0])) := by kernel_rfl
theorem fF0 : fldInfo Tryz.prog 53 0 = some (0, some 1) := by kernel_rfl
theorem fF1 : fldInfo Tryz.prog 53 1 = some (1, some 1) := by kernel_rfl
theorem fF2 : fldInfo Tryz.prog 53 2 = some (2, some 1) := by kernel_rfl
theorem Zh : LdN Tryz.prog 53 3 := LdN.of _ Tryz.underlying53 rfl (by kernel_rfl)
theorem szFrac : (Tryz.prog.info? 53).map (·.size) = some 3 := by kernel_rfl
theorem bFrac : bInfo Tryz.prog 53 = some (.agg #[.bool false, .slice none 0 0, .slice none 0 0], [(0, some 1), (1, some 1), (2, some 1)]) := by kernel_rfl
structure Fr where
  neg : Bool
  num : Nat
  den : Nat
abbrev frCs (f : Fr) : List CT := [boolC f.neg, natC f.num, natC f.den]
abbrev fracC (f : Fr) : CT := .fr (aggT (frCs f))
abbrev fracsC (fs : List Fr) : CT := .fr (sliceT 3 (fs.map frCs))
abbrev frac0 : CT := .fr (aggT [boolC false, .ex (.slice none 0 0), .ex (.slice none 0 0)])
attribute [local irreducible] Go.Own.Fin Ok Ops St
theorem limbs_len_pos {n : Nat} : 0 < (limbs n).length ↔ n ≠ 0 := by
  constructor
  · intro h h0; subst h0; rw [limbs_zero] at h; simp at h
  · intro h; rw [limbs_pos h]; simp
theorem limbs_len_posI {n : Nat} : decide ((limbs n).length > (0 : Int)) = decide (n ≠ 0) := by
  rw [decide_eq_decide, ← limbs_len_pos]; omega
theorem goAdd : InGo Tryz.prog 140 := InGo.of Tryz.func140 (by kernel_rfl) (by kernel_rfl)
set_option maxHeartbeats 2000000 in
theorem magnitude_ok (n : Int) (h1 : -9223372036854775808 ≤ n) (h2 : n ≤ 9223372036854775807) : Ok Tryz.prog 101 [intC n] (natC n.natAbs) := by
  refine Ok.enter Tryz.func101 rfl _ Tryz.ntmps101 rfl ?_
  intro S w
  (refine Qw (Qx fun K hK => ?_); refine Qv rfl rfl rfl ?_; refine Qj (hK _ _ (Qz (Qw (Qw ?_)))); clear hK K; refine Qx (fun K hK => ?_); refine Qq rfl rfl rfl ?_; refine Qk ineq rfl rfl rfl rfl ?_; refine Qj (hK _ _ (Qz ?_)); clear hK K)
  refine Q2 rfl (fun h => ?_) (fun h => ?_)
  · (refine Qw (Qx fun K hK => ?_); refine Qq rfl rfl rfl ?_; refine Qq rfl rfl rfl ?_)
    refine Ops.ineg rfl rfl (by omega) (by omega) rfl ?_
    (refine Ops.max2 rfl rfl rfl rfl ?_; refine Qv rfl rfl rfl ?_; refine Qj (hK _ _ (Qz (Qw ?_))); clear hK K; refine Qx (fun K hK => ?_); refine Qq rfl rfl rfl ?_)
    rw [show max n (-n) = (n.natAbs : Int) by omega]
    refine QW goFrom (From_ok n.natAbs (by omega)) rfl rfl rfl rfl ?_
    (refine Qq rfl rfl rfl ?_; refine Qf rfl rfl rfl rfl ?_; refine Qf rfl rfl rfl rfl ?_; refine Qv rfl rfl rfl ?_; refine Qv rfl rfl rfl ?_; refine Qj (hK _ _ (Qz (Qw ?_))); clear hK K; refine Qx (fun K hK => ?_); refine Qq rfl rfl rfl ?_; refine Qv rfl rfl rfl ?_; refine Qj (hK _ _ (Qz (Q0 (QY ?_)))); clear hK K)
    refine QU [_] rfl (QQ rfl QX) rfl rfl
  · (refine Q1 (Qz (Qw (Qx fun K hK => ?_))))
    refine QW goFrom (From_ok 4611686018427387904 (by omega)) rfl rfl rfl rfl ?_
    (refine Qq rfl rfl rfl ?_; refine Qf rfl rfl rfl rfl ?_; refine Qf rfl rfl rfl rfl ?_; refine Qv rfl rfl rfl ?_; refine Qv rfl rfl rfl ?_; refine Qj (hK _ _ (Qz (Qw ?_))); clear hK K; refine Qx (fun K hK => ?_); refine Qq rfl rfl rfl ?_; refine Qq rfl rfl rfl ?_)
    refine QW goAdd (Add_list _ _ ?_ ?_ (Xm _) (Xm _)) rfl rfl rfl rfl ?_
    · exact Nat.le_trans (XJ (k := 3) (by decide)) (by decide)
    · exact Nat.le_trans (XJ (k := 3) (by decide)) (by decide)
    rw [ZW]
    (refine Qq rfl rfl rfl ?_; refine Qf rfl rfl rfl rfl ?_; refine Qf rfl rfl rfl rfl ?_; refine Qv rfl rfl rfl ?_; refine Qv rfl rfl rfl ?_; refine Qj (hK _ _ (Qz (Qw ?_))); clear hK K; refine Qx (fun K hK => ?_); refine Qq rfl rfl rfl ?_; refine Qv rfl rfl rfl ?_; refine Qj (hK _ _ (Qz (Q0 ?_))); clear hK K)
    refine QU [_] rfl (QQ rfl QX) (by congr 1; have : n.natAbs = 9223372036854775808 := by omega
                                      rw [this]; rfl) rfl
theorem gomagnitude : InGo Tryz.prog 101 := InGo.of Tryz.func101 (by kernel_rfl) (by kernel_rfl)
def sumN (n1 : Bool) (a : Nat) (n2 : Bool) (b : Nat) : Nat := if n1 = n2 then a + b else if a < b then b - a else a - b
def sumS (n1 : Bool) (a : Nat) (n2 : Bool) (b : Nat) : Bool := if n1 = n2 then n1 else if a < b then n2 else n1
def redF (neg : Bool) (a b : Nat) : Fr := ⟨neg && decide (a / Nat.gcd a b ≠ 0), a / Nat.gcd a b, b / Nat.gcd a b⟩
set_option maxHeartbeats 2000000 in
theorem reduced_small (neg : Bool) (a b : Nat) (h0 : 0 < b) (hb : b < 1073741824) (hl : (limbs a).length ≤ 256) : Ok Tryz.prog 100 [boolC neg, natC a, natC b] (fracC (redF neg a b)) := by
  have hg0 : 0 < Nat.gcd a b := Nat.gcd_pos_of_pos_right _ h0
  have hg1 : Nat.gcd a b ≤ b := Nat.gcd_le_right _ h0
  have hlb : (limbs b).length ≤ 1 := XJ (k := 1) (by omega)
  refine Ok.enter Tryz.func100 rfl _ Tryz.ntmps100 rfl ?_
  intro S w
  have e0 : redF neg a b = ⟨neg && decide (a / Nat.gcd a b ≠ 0), a / Nat.gcd a b, b / Nat.gcd a b⟩ := rfl
  rw [e0]
  clear e0
  have h1 := Gcd_small a b hb hl
  generalize Nat.gcd a b = g at *
  (refine Qw (Qx fun K hK => ?_); refine Qh 0 rfl rfl (by with_reducible exact zvFrac) rfl rfl rfl ?_; refine Qj (hK _ _ (Qz (Qw ?_))); clear hK K; refine Qx (fun K hK => ?_); refine Qq rfl rfl rfl ?_; refine Qq rfl rfl rfl ?_)
  refine QW goGcd h1 rfl rfl rfl rfl ?_
  (refine Qv rfl rfl rfl ?_; refine Qj (hK _ _ (Qz (Qw ?_))); clear hK K; refine Qx (fun K hK => ?_); refine Qq rfl rfl rfl ?_; refine Qq rfl rfl rfl ?_)
  refine QW goDivMod (DivMod_small a g hg0 (by omega) hl) rfl rfl rfl rfl ?_
  (refine Qq rfl rfl rfl ?_; refine Qf rfl rfl rfl rfl ?_; refine Qf rfl rfl rfl rfl ?_; refine Qf rfl rfl rfl rfl ?_; refine Qv rfl rfl rfl ?_; refine Qv rfl rfl rfl ?_; refine Qv rfl rfl rfl ?_; refine Qj (hK _ _ (Qz (Qw ?_))); clear hK K; refine Qx (fun K hK => ?_); refine Qq rfl rfl rfl ?_; refine Qq rfl rfl rfl ?_)
  refine QW goDivMod (DivMod_small b g hg0 (by omega) (by omega)) rfl rfl rfl rfl ?_
  (refine Qq rfl rfl rfl ?_; refine Qf rfl rfl rfl rfl ?_; refine Qf rfl rfl rfl rfl ?_; refine Qf rfl rfl rfl rfl ?_; refine Qv rfl rfl rfl ?_; refine Qv rfl rfl rfl ?_; refine Qv rfl rfl rfl ?_; refine Qj (hK _ _ (Qz (Qw ?_))); clear hK K; refine Qx (fun K hK => ?_); refine Qq rfl rfl rfl ?_; refine Qq rfl rfl rfl ?_)
  refine X3 32 rfl (fun h => ?_) (fun h => ?_)
  · (refine Qq rfl rfl rfl ?_; refine Qd rfl rfl (by with_reducible exact sNat.und) (List.length_map ..) rfl ?_; refine Qk igtr rfl rfl rfl rfl ?_; refine QZ rfl rfl rfl rfl ?_; refine Qq rfl rfl rfl ?_; refine Qq rfl rfl rfl ?_)
    refine Xq rfl (by with_reducible exact bFrac) rfl (.one rfl rfl rfl rfl (.one rfl rfl rfl rfl (.one rfl rfl rfl rfl .nil))) rfl ?_
    (refine Qe 3 rfl rfl rfl rfl rfl (by with_reducible exact szFrac) rfl rfl ?_; refine Qj (hK _ _ (Qz (Q0 ?_))); clear hK K)
    refine QU [_] rfl (Qi (n := 3) rfl rfl (by with_reducible exact Zh) rfl QX) (by rw [← limbs_len_posI, h]; rfl) rfl
  · (refine Qy rfl rfl rfl ?_; refine Qy rfl rfl rfl ?_; refine Qy rfl rfl rfl ?_; refine QK rfl rfl rfl rfl ?_; refine Qq rfl rfl rfl ?_; refine Qq rfl rfl rfl ?_)
    refine Xq rfl (by with_reducible exact bFrac) rfl (.one rfl rfl rfl rfl (.one rfl rfl rfl rfl (.one rfl rfl rfl rfl .nil))) rfl ?_
    (refine Qe 3 rfl rfl rfl rfl rfl (by with_reducible exact szFrac) rfl rfl ?_; refine Qj (hK _ _ (Qz (Q0 ?_))); clear hK K)
    refine QU [_] rfl (Qi (n := 3) rfl rfl (by with_reducible exact Zh) rfl QX) (by rw [h]; rfl) rfl
theorem goreduced : InGo Tryz.prog 100 := InGo.of Tryz.func100 (by kernel_rfl) (by kernel_rfl)
end Go.Proofs.YtlkdkbdgnjcopaaGreat
namespace Go.Proofs.YtlkdkbdgnjcopaaGreat
open Go.Own Go.Limbs
def sg (n : Bool) (a : Nat) : Int := if n then -(a : Int) else a
def ofQ (q : Rat) : Fr := ⟨decide (q.num < 0), q.num.natAbs, q.den⟩
abbrev ratC (q : Rat) : CT := fracC (ofQ q)
theorem natAbs_sg (n : Bool) (a : Nat) : (sg n a).natAbs = a := by unfold sg; split <;> omega
theorem redF_q (n : Bool) (a b : Nat) (hb : 0 < b) : redF n a b = ofQ (mkRat (sg n a) b) := by
  have hb' : b ≠ 0 := by omega
  have hg : 0 < Nat.gcd a b := Nat.gcd_pos_of_pos_right _ hb; rw [Rat.mkRat_def, dif_neg hb', Rat.normalize_eq]; unfold redF ofQ; simp only [natAbs_sg]; have hd : (Nat.gcd a b : Int) ∣ (a : Int) := Int.natCast_dvd_natCast.mpr (Nat.gcd_dvd_left a b)
  have e1 : (sg n a / (Nat.gcd a b : Int)) = sg n (a / Nat.gcd a b) := by
    unfold sg; split
    · rw [Int.neg_ediv_of_dvd hd, Int.natCast_ediv]
    · rw [Int.natCast_ediv]
  rw [e1, natAbs_sg]
  congr 1
  generalize a / Nat.gcd a b = c; unfold sg; cases n
  · simp
  · show (true && decide (c ≠ 0)) = decide (-(c : Int) < 0); rw [Bool.true_and, decide_eq_decide]; omega
theorem from_redF (n d : Int) (hd : d ≠ 0) : redF (decide (n < 0) != decide (d < 0)) n.natAbs d.natAbs = ofQ (Rat.divInt n d) := by
  rw [redF_q _ _ _ (by omega)]
  congr 1
  have e : sg (decide (n < 0) != decide (d < 0)) n.natAbs = if d < 0 then -n else n := by
    unfold sg
    by_cases h1 : n < 0 <;> by_cases h2 : d < 0 <;> simp [h1, h2] <;> omega
  rw [e]; rcases d with d | d
  · rw [if_neg (by simp)]; rfl
  · rw [if_pos (by omega)]; show mkRat (-n) (d + 1) = Rat.normalize (-n) (d + 1) (by omega); rw [Rat.normalize_eq_mkRat]
attribute [local irreducible] Go.Own.Fin Ok Ops St
def Sz (a : Nat) : Prop := (limbs a).length ≤ 30
theorem dne (p q : Bool) : decide (p ≠ q) = (p != q) := by cases p <;> cases q <;> rfl
set_option maxHeartbeats 2000000 in
theorem FFrom_ok (n d : Int) (h1 : -9223372036854775808 ≤ n) (h2 : n ≤ 9223372036854775807) (h3 : -1073741824 < d) (h4 : d < 1073741824) (h0 : d ≠ 0) : Ok Tryz.prog 54 [intC n, intC d] (.fr (tupT [ratC (Rat.divInt n d), intC 0])) := by
  have hl : (limbs n.natAbs).length ≤ 3 := XJ (k := 3) (by omega)
  rw [show ratC (Rat.divInt n d) = fracC (redF (decide (n < 0) != decide (d < 0)) n.natAbs d.natAbs) from by rw [from_redF n d h0]]
  refine Ok.enter Tryz.func54 rfl _ Tryz.ntmps54 rfl ?_
  intro S w
  (refine Qw (Qx fun K hK => ?_); refine Qh 0 rfl rfl (by with_reducible exact zvFrac) rfl rfl rfl ?_; refine Qv rfl rfl rfl ?_; refine Qj (hK _ _ (Qz (Qw (Qw ?_)))); clear hK K; refine Qx (fun K hK => ?_); refine Qq rfl rfl rfl ?_; refine Qk ieql rfl rfl rfl rfl ?_; refine Qj (hK _ _ (Qz ?_)); clear hK K)
  refine Q2 rfl (fun h => absurd h h0) (fun h => ?_)
  (refine Q1 (Qz (Qw (Qx fun K hK => ?_))); refine Qq rfl rfl rfl ?_; refine Qk ilss rfl rfl rfl rfl ?_; refine Qq rfl rfl rfl ?_; refine Qk ilss rfl rfl rfl rfl ?_)
  refine Ops.bne rfl rfl rfl uBool rfl ?_
  rw [dne]
  (refine Qq rfl rfl rfl ?_)
  refine QW gomagnitude (magnitude_ok n h1 h2) rfl rfl rfl rfl ?_
  (refine Qq rfl rfl rfl ?_)
  refine QW gomagnitude (magnitude_ok d (by omega) (by omega)) rfl rfl rfl rfl ?_
  refine QW goreduced (reduced_small _ n.natAbs d.natAbs (by omega) (by omega) (by omega)) rfl rfl rfl rfl ?_
  (refine Qe 3 rfl rfl rfl rfl rfl (by with_reducible exact szFrac) rfl rfl ?_; refine Qv rfl rfl rfl ?_; refine Qj (hK _ _ (Qz (Q0 ?_))); clear hK K)
  refine QU [_, _] rfl (Qi (n := 3) rfl rfl (by with_reducible exact Zh) rfl (QQ rfl QX)) rfl rfl
theorem goFFrom : InGo Tryz.prog 54 := InGo.of Tryz.func54 (by kernel_rfl) (by kernel_rfl)
attribute [local irreducible] OkB OkF OkL OkM OkN OkT
def frZ : Fr := ⟨false, 0, 0⟩
def rateC (c : Cn) : CT := if c.lo < 0 ∨ c.hi < c.lo ∨ c.se < c.hi ∨ c.se < 1 then .fr (tupT [fracC frZ, fracC frZ, intC 1]) else .fr (tupT [ratC (Rat.divInt c.lo c.se), ratC (Rat.divInt c.hi c.se), intC 0])
theorem goRate : InGo Tryz.prog 19 := InGo.of Tryz.func19 rfl (by decide)
set_option maxHeartbeats 8000000 in
theorem Rate_ok (c : Cn) (h1 : -9223372036854775808 ≤ c.lo ∧ c.lo < 9223372036854775808) (h2 : -9223372036854775808 ≤ c.hi ∧ c.hi < 9223372036854775808) (h3 : -9223372036854775808 ≤ c.se ∧ c.se < 1073741824) : Ok Tryz.prog 19 [cnC c] (rateC c) := by
  have e : rateC c = if c.lo < 0 ∨ c.hi < c.lo ∨ c.se < c.hi ∨ c.se < 1 then .fr (tupT [fracC frZ, fracC frZ, intC 1]) else .fr (tupT [ratC (Rat.divInt c.lo c.se), ratC (Rat.divInt c.hi c.se), intC 0]) := rfl
  generalize rateC c = out at e ⊢
  refine Ok.enter Tryz.func19 rfl _ Tryz.ntmps19 rfl ?_
  intro S w0
  refine Qw ?_
  refine Qx (fun K hK => ?_)
  refine Xk 0 rfl rfl rfl rfl rfl rfl rfl ?_
  refine Qh 1 rfl rfl (by with_reducible exact zvFrac) rfl rfl rfl ?_
  refine Qh 2 rfl rfl (by with_reducible exact zvFrac) rfl rfl rfl ?_
  (refine Qv rfl rfl rfl ?_; refine Qj (hK _ _ (Qz (Qw (Qw ?_)))); clear hK K; refine Qx (fun K hK => ?_); refine QV rfl rfl rfl (by with_reducible first | exact fTk0 | exact fTk1 | exact fTk2 | exact fWr0 | exact fWr1 | exact X0 | exact XK | exact Xl | exact fStm1 | exact fCn0 | exact fCn1 | exact fCn2 | exact fCn3 | exact fCs0 | exact fCs1) rfl ?_; refine QJ rfl rfl rfl rfl rfl (by with_reducible first | exact lInt | exact Q9 | exact Q6 | exact lRess) rfl ?_; refine Qk ilss rfl rfl rfl rfl ?_; refine Qq rfl rfl rfl ?_)
  refine Q5 8 rfl (fun g1 => ?_) (fun g1 => ?_)
  · rw [if_pos (.inl g1)] at e
    (refine Qy rfl rfl rfl ?_; refine Qy rfl rfl rfl ?_; refine Qy rfl rfl rfl ?_; refine Qy rfl rfl rfl ?_; refine Qy rfl rfl rfl ?_; refine QZ rfl rfl rfl rfl ?_; refine Qq rfl rfl rfl ?_; refine Qy rfl rfl rfl ?_; refine Qy rfl rfl rfl ?_; refine Qy rfl rfl rfl ?_; refine Qy rfl rfl rfl ?_; refine Qy rfl rfl rfl ?_; refine QZ rfl rfl rfl rfl ?_; refine Qq rfl rfl rfl ?_; refine Qy rfl rfl rfl ?_; refine Qy rfl rfl rfl ?_; refine Qy rfl rfl rfl ?_; refine QZ rfl rfl rfl rfl ?_; refine Qj (hK _ _ (Qz (Qo rfl (Qw ?_)))); clear hK K; refine Qx (fun K hK => ?_))
    refine Xq rfl (by with_reducible exact bFrac) rfl .nil rfl ?_
    refine Xq rfl (by with_reducible exact bFrac) rfl .nil rfl ?_
    refine Qe 3 rfl rfl rfl rfl rfl (by with_reducible exact szFrac) rfl rfl ?_
    refine Qe 3 rfl rfl rfl rfl rfl (by with_reducible exact szFrac) rfl rfl ?_
    (refine Qv rfl rfl rfl ?_; refine Qj (hK _ _ (Qz (Q0 (QY ?_)))); clear hK K)
    refine QU [_, _, _] rfl (X4 (w_agg (ds := [boolC false, intsC [], intsC []]) (by exact ⟨w_same, Z9, Z9, trivial⟩)) (Qi (n := 3) rfl rfl (by with_reducible exact Zh) rfl (X4 (w_agg (ds := [boolC false, intsC [], intsC []]) (by exact ⟨w_same, Z9, Z9, trivial⟩)) (Qi (n := 3) rfl rfl (by with_reducible exact Zh) rfl (QQ rfl QX))))) (by rw [e]; show CT.fr (tupT [.fr (aggT [boolC false, intsC (limbs 0), intsC (limbs 0)]), .fr (aggT [boolC false, intsC (limbs 0), intsC (limbs 0)]), intC 1]) = _; rw [limbs_zero]; rfl) rfl
  (refine QV rfl rfl rfl (by with_reducible first | exact fTk0 | exact fTk1 | exact fTk2 | exact fWr0 | exact fWr1 | exact X0 | exact XK | exact Xl | exact fStm1 | exact fCn0 | exact fCn1 | exact fCn2 | exact fCn3 | exact fCs0 | exact fCs1) rfl ?_; refine QJ rfl rfl rfl rfl rfl (by with_reducible first | exact lInt | exact Q9 | exact Q6 | exact lRess) rfl ?_; refine QV rfl rfl rfl (by with_reducible first | exact fTk0 | exact fTk1 | exact fTk2 | exact fWr0 | exact fWr1 | exact X0 | exact XK | exact Xl | exact fStm1 | exact fCn0 | exact fCn1 | exact fCn2 | exact fCn3 | exact fCs0 | exact fCs1) rfl ?_; refine QJ rfl rfl rfl rfl rfl (by with_reducible first | exact lInt | exact Q9 | exact Q6 | exact lRess) rfl ?_; refine Qk igtr rfl rfl rfl rfl ?_; refine QK rfl rfl rfl rfl ?_; refine Qq rfl rfl rfl ?_)
  refine Q5 15 rfl (fun g2 => ?_) (fun g2 => ?_)
  · rw [if_pos (.inr (.inl g2))] at e
    (refine Qy rfl rfl rfl ?_; refine Qy rfl rfl rfl ?_; refine Qy rfl rfl rfl ?_; refine Qy rfl rfl rfl ?_; refine Qy rfl rfl rfl ?_; refine QZ rfl rfl rfl rfl ?_; refine Qq rfl rfl rfl ?_; refine Qy rfl rfl rfl ?_; refine Qy rfl rfl rfl ?_; refine Qy rfl rfl rfl ?_; refine QZ rfl rfl rfl rfl ?_; refine Qj (hK _ _ (Qz (Qo rfl (Qw ?_)))); clear hK K; refine Qx (fun K hK => ?_))
    refine Xq rfl (by with_reducible exact bFrac) rfl .nil rfl ?_
    refine Xq rfl (by with_reducible exact bFrac) rfl .nil rfl ?_
    refine Qe 3 rfl rfl rfl rfl rfl (by with_reducible exact szFrac) rfl rfl ?_
    refine Qe 3 rfl rfl rfl rfl rfl (by with_reducible exact szFrac) rfl rfl ?_
    (refine Qv rfl rfl rfl ?_; refine Qj (hK _ _ (Qz (Q0 (QY ?_)))); clear hK K)
    refine QU [_, _, _] rfl (X4 (w_agg (ds := [boolC false, intsC [], intsC []]) (by exact ⟨w_same, Z9, Z9, trivial⟩)) (Qi (n := 3) rfl rfl (by with_reducible exact Zh) rfl (X4 (w_agg (ds := [boolC false, intsC [], intsC []]) (by exact ⟨w_same, Z9, Z9, trivial⟩)) (Qi (n := 3) rfl rfl (by with_reducible exact Zh) rfl (QQ rfl QX))))) (by rw [e]; show CT.fr (tupT [.fr (aggT [boolC false, intsC (limbs 0), intsC (limbs 0)]), .fr (aggT [boolC false, intsC (limbs 0), intsC (limbs 0)]), intC 1]) = _; rw [limbs_zero]; rfl) rfl
  (refine QV rfl rfl rfl (by with_reducible first | exact fTk0 | exact fTk1 | exact fTk2 | exact fWr0 | exact fWr1 | exact X0 | exact XK | exact Xl | exact fStm1 | exact fCn0 | exact fCn1 | exact fCn2 | exact fCn3 | exact fCs0 | exact fCs1) rfl ?_; refine QJ rfl rfl rfl rfl rfl (by with_reducible first | exact lInt | exact Q9 | exact Q6 | exact lRess) rfl ?_; refine QV rfl rfl rfl (by with_reducible first | exact fTk0 | exact fTk1 | exact fTk2 | exact fWr0 | exact fWr1 | exact X0 | exact XK | exact Xl | exact fStm1 | exact fCn0 | exact fCn1 | exact fCn2 | exact fCn3 | exact fCs0 | exact fCs1) rfl ?_; refine QJ rfl rfl rfl rfl rfl (by with_reducible first | exact lInt | exact Q9 | exact Q6 | exact lRess) rfl ?_; refine Qk igtr rfl rfl rfl rfl ?_; refine QK rfl rfl rfl rfl ?_; refine Qq rfl rfl rfl ?_)
  refine Q5 22 rfl (fun g3 => ?_) (fun g3 => ?_)
  · rw [if_pos (.inr (.inr (.inl g3)))] at e
    (refine Qy rfl rfl rfl ?_; refine Qy rfl rfl rfl ?_; refine Qy rfl rfl rfl ?_; refine QZ rfl rfl rfl rfl ?_; refine Qj (hK _ _ (Qz (Qo rfl (Qw ?_)))); clear hK K; refine Qx (fun K hK => ?_))
    refine Xq rfl (by with_reducible exact bFrac) rfl .nil rfl ?_
    refine Xq rfl (by with_reducible exact bFrac) rfl .nil rfl ?_
    refine Qe 3 rfl rfl rfl rfl rfl (by with_reducible exact szFrac) rfl rfl ?_
    refine Qe 3 rfl rfl rfl rfl rfl (by with_reducible exact szFrac) rfl rfl ?_
    (refine Qv rfl rfl rfl ?_; refine Qj (hK _ _ (Qz (Q0 (QY ?_)))); clear hK K)
    refine QU [_, _, _] rfl (X4 (w_agg (ds := [boolC false, intsC [], intsC []]) (by exact ⟨w_same, Z9, Z9, trivial⟩)) (Qi (n := 3) rfl rfl (by with_reducible exact Zh) rfl (X4 (w_agg (ds := [boolC false, intsC [], intsC []]) (by exact ⟨w_same, Z9, Z9, trivial⟩)) (Qi (n := 3) rfl rfl (by with_reducible exact Zh) rfl (QQ rfl QX))))) (by rw [e]; show CT.fr (tupT [.fr (aggT [boolC false, intsC (limbs 0), intsC (limbs 0)]), .fr (aggT [boolC false, intsC (limbs 0), intsC (limbs 0)]), intC 1]) = _; rw [limbs_zero]; rfl) rfl
  (refine QV rfl rfl rfl (by with_reducible first | exact fTk0 | exact fTk1 | exact fTk2 | exact fWr0 | exact fWr1 | exact X0 | exact XK | exact Xl | exact fStm1 | exact fCn0 | exact fCn1 | exact fCn2 | exact fCn3 | exact fCs0 | exact fCs1) rfl ?_; refine QJ rfl rfl rfl rfl rfl (by with_reducible first | exact lInt | exact Q9 | exact Q6 | exact lRess) rfl ?_; refine Qk ilss rfl rfl rfl rfl ?_; refine QK rfl rfl rfl rfl ?_; refine Qj (hK _ _ (Qz ?_)); clear hK K)
  refine Q2 rfl (fun g4 => ?_) (fun g4 => ?_)
  · rw [if_pos (.inr (.inr (.inr g4)))] at e
    (refine Qw (Qx fun K hK => ?_))
    refine Xq rfl (by with_reducible exact bFrac) rfl .nil rfl ?_
    refine Xq rfl (by with_reducible exact bFrac) rfl .nil rfl ?_
    refine Qe 3 rfl rfl rfl rfl rfl (by with_reducible exact szFrac) rfl rfl ?_
    refine Qe 3 rfl rfl rfl rfl rfl (by with_reducible exact szFrac) rfl rfl ?_
    (refine Qv rfl rfl rfl ?_; refine Qj (hK _ _ (Qz (Q0 (QY ?_)))); clear hK K)
    refine QU [_, _, _] rfl (X4 (w_agg (ds := [boolC false, intsC [], intsC []]) (by exact ⟨w_same, Z9, Z9, trivial⟩)) (Qi (n := 3) rfl rfl (by with_reducible exact Zh) rfl (X4 (w_agg (ds := [boolC false, intsC [], intsC []]) (by exact ⟨w_same, Z9, Z9, trivial⟩)) (Qi (n := 3) rfl rfl (by with_reducible exact Zh) rfl (QQ rfl QX))))) (by rw [e]; show CT.fr (tupT [.fr (aggT [boolC false, intsC (limbs 0), intsC (limbs 0)]), .fr (aggT [boolC false, intsC (limbs 0), intsC (limbs 0)]), intC 1]) = _; rw [limbs_zero]; rfl) rfl
  rw [if_neg (fun h => h.elim g1 (fun h => h.elim g2 (fun h => h.elim g3 g4)))] at e
  have hF1 := FFrom_ok c.lo c.se (by omega) (by omega) (by omega) (by omega) (by omega)
  have hF2 := FFrom_ok c.hi c.se (by omega) (by omega) (by omega) (by omega) (by omega)
  (refine Q1 (Qz (Qw (Qx fun K hK => ?_))); refine QV rfl rfl rfl (by with_reducible first | exact fTk0 | exact fTk1 | exact fTk2 | exact fWr0 | exact fWr1 | exact X0 | exact XK | exact Xl | exact fStm1 | exact fCn0 | exact fCn1 | exact fCn2 | exact fCn3 | exact fCs0 | exact fCs1) rfl ?_; refine QJ rfl rfl rfl rfl rfl (by with_reducible first | exact lInt | exact Q9 | exact Q6 | exact lRess) rfl ?_; refine QV rfl rfl rfl (by with_reducible first | exact fTk0 | exact fTk1 | exact fTk2 | exact fWr0 | exact fWr1 | exact X0 | exact XK | exact Xl | exact fStm1 | exact fCn0 | exact fCn1 | exact fCn2 | exact fCn3 | exact fCs0 | exact fCs1) rfl ?_; refine QJ rfl rfl rfl rfl rfl (by with_reducible first | exact lInt | exact Q9 | exact Q6 | exact lRess) rfl ?_)
  refine QW goFFrom hF1 rfl rfl rfl rfl ?_
  (refine Qq rfl rfl rfl ?_; refine Qf rfl rfl rfl rfl ?_; refine Qf rfl rfl rfl rfl ?_)
  refine Qe 3 rfl rfl rfl rfl rfl (by with_reducible exact szFrac) rfl rfl ?_
  (refine Qj (hK _ _ (Qz (Qw ?_))); clear hK K; refine Qx (fun K hK => ?_); refine QV rfl rfl rfl (by with_reducible first | exact fTk0 | exact fTk1 | exact fTk2 | exact fWr0 | exact fWr1 | exact X0 | exact XK | exact Xl | exact fStm1 | exact fCn0 | exact fCn1 | exact fCn2 | exact fCn3 | exact fCs0 | exact fCs1) rfl ?_; refine QJ rfl rfl rfl rfl rfl (by with_reducible first | exact lInt | exact Q9 | exact Q6 | exact lRess) rfl ?_; refine QV rfl rfl rfl (by with_reducible first | exact fTk0 | exact fTk1 | exact fTk2 | exact fWr0 | exact fWr1 | exact X0 | exact XK | exact Xl | exact fStm1 | exact fCn0 | exact fCn1 | exact fCn2 | exact fCn3 | exact fCs0 | exact fCs1) rfl ?_; refine QJ rfl rfl rfl rfl rfl (by with_reducible first | exact lInt | exact Q9 | exact Q6 | exact lRess) rfl ?_)
  refine QW goFFrom hF2 rfl rfl rfl rfl ?_
  (refine Qq rfl rfl rfl ?_; refine Qf rfl rfl rfl rfl ?_; refine Qf rfl rfl rfl rfl ?_)
  refine Qe 3 rfl rfl rfl rfl rfl (by with_reducible exact szFrac) rfl rfl ?_
  (refine Qj (hK _ _ (Qz (Qw ?_))); clear hK K)
  refine St.drawQ (by with_reducible exact mixed) [2, 3] (.f 0 (.m 1 (.a 2 (.a 3 (.p 4 .done) .non) .non) (.a 2 (.f 1 (.a 3 (.p 4 .done) .non)) .non))) (by kernel_rfl) (fun K hK => ?_)
  refine Zq ?_
  refine Qa (n := 3) rfl rfl rfl rfl rfl (by with_reducible exact Zh) rfl ?_
  refine Qj ?_
  refine Xs ?_ ?_
  · refine Qa (n := 3) rfl rfl rfl rfl rfl (by with_reducible exact Zh) rfl ?_
    refine Qj ?_
    refine XV ?_ Qr
    refine Qe 3 rfl rfl rfl rfl rfl (by with_reducible exact szFrac) rfl rfl ?_
    refine Qj ?_
    refine XV ?_ Qr
    refine Qe 3 rfl rfl rfl rfl rfl (by with_reducible exact szFrac) rfl rfl ?_
    refine Qj ?_
    refine YZ ?_
    refine Qv rfl rfl rfl ?_
    refine Qj ?_
    refine XY (hK _ _ ?_)
    (refine Qz (Q0 ?_))
    refine QU [_, _, _] rfl (Qi (n := 3) rfl rfl (by with_reducible exact Zh) rfl (Qi (n := 3) rfl rfl (by with_reducible exact Zh) rfl (QQ rfl QX))) (by rw [e]; rfl) rfl
  refine XV ?_ Qr
  refine Qe 3 rfl rfl rfl rfl rfl (by with_reducible exact szFrac) rfl rfl ?_
  refine Qj ?_
  refine Zq ?_
  refine Qa (n := 3) rfl rfl rfl rfl rfl (by with_reducible exact Zh) rfl ?_
  refine Qj ?_
  refine XV ?_ Qr
  refine Qe 3 rfl rfl rfl rfl rfl (by with_reducible exact szFrac) rfl rfl ?_
  refine Qj ?_
  refine YZ ?_
  refine Qv rfl rfl rfl ?_
  refine Qj ?_
  refine XY (hK _ _ ?_)
  (refine Qz (Q0 ?_))
  refine QU [_, _, _] rfl (Qi (n := 3) rfl rfl (by with_reducible exact Zh) rfl (Qi (n := 3) rfl rfl (by with_reducible exact Zh) rfl (QQ rfl QX))) (by rw [e]; rfl) rfl
end Go.Proofs.YtlkdkbdgnjcopaaGreat
namespace Go.Proofs.YtlkdkbdgnjcopaaGreat
open Go.Own Go.Limbs
attribute [local irreducible] St Ops Go.Own.Fin Ok
theorem rOrder_ok (x y : Int) : Ok Tryz.prog 171 [intC x, intC y] (intC (cmpI x y)) := by
  refine Ok.enter Tryz.func171 J _ Tryz.ntmps171 J ?_
  intro S w; refine Qw (Qx fun K hK => ?_); refine Qv J J J (Qj (hK _ _ (Qz (Qw (Qw ?_))))); clear hK K; refine Qx (fun K hK => ?_); refine Qq J J J (Qq J J J (Qk ilss J J J J (Qj (hK _ _ (Qz ?_))))); clear hK K; refine Q2 J (fun h => ?_) (fun h => ?_)
  · refine Qw (Qx fun K hK => ?_); refine Qv J J J (Qj (hK _ _ (Qz (Q0 (QY ?_))))); clear hK K; refine QU [_] rfl (QQ J QX) (by rw [Xn, if_pos h]; rfl) J
  · refine Q1 (Qz (Qw (Qw (Qx fun K hK => ?_)))); refine Qq J J J (Qq J J J (Qk igtr J J J J (Qj (hK _ _ (Qz ?_))))); clear hK K; refine Q2 J (fun h2 => ?_) (fun h2 => ?_)
    · refine Qw (Qx fun K hK => ?_); refine Qv J J J (Qj (hK _ _ (Qz (Q0 (QY ?_))))); clear hK K; refine QU [_] rfl (QQ J QX) (by rw [Xn, if_neg h, if_pos h2]; rfl) J
    · refine Q1 (Qz (Qw (Qx fun K hK => ?_))); refine Qv J J J (Qj (hK _ _ (Qz (Q0 ?_)))); clear hK K; refine QU [_] rfl (QQ J QX) (by rw [Xn, if_neg h, if_neg h2]; rfl) J
theorem gorOrder : InGo Tryz.prog 171 := InGo.of Tryz.func171 (by kernel_rfl) (by kernel_rfl)
theorem rTrim_ok (xs : List Int) (hl : xs.length < 4611686018427387904) : Ok Tryz.prog 136 [intsC xs] (intsC (trimL xs)) := by
  refine Ok.enter Tryz.func136 J _ Tryz.ntmps136 J ?_
  intro S w; refine Qw (Qx fun K hK => ?_); refine Qv J J J (Qj (hK _ _ (Qz (Qw (Q4 ?_))))); clear hK K
  refine Xz (α := List Int) (fun ys => trimL ys = trimL xs ∧ ys.length ≤ xs.length) (fun ys => [(0, .ct (intsC ys))]) (fun _ => []) (fun ys => ys.length) xs ⟨rfl, Nat.le_refl _⟩ (Entails.sub ⟨rfl, trivial⟩) ?_
  intro ys ⟨hy, hle⟩; refine Qw (Qw (Qx fun K hK => ?_)); refine Qq J J J (Qd J J sNat.und (List.length_map ..) J (Qk igtr J J J J (Qq J J J (Q5 6 J (fun h => ?_) (fun h => ?_)))))
  · have e1 : ((ys.length : Int) - 1).toNat = ys.length - 1 := by omega
    refine Qq J J J (Qq J J J (Qd J J sNat.und (List.length_map ..) J (Qk (isub (by omega) (by omega)) J J J J ?_)))
    refine Qg J J J sNat (by omega) (X5 (by omega) (by omega)) J ?_
    refine Xy J J J lInt J (Qk ieql J J J J (QZ J J J J (Qj (hK _ _ (Qz ?_))))); clear hK K; refine Q2 J (fun h2 => ?_) (fun h2 => ?_)
    · rw [e1] at h2; refine Q1 (Qz (Q4 (Qx fun K hK => ?_))); refine Qq J J J (Qq J J J (Qd J J sNat.und (List.length_map ..) J (Qk (isub (by omega) (by omega)) J J J J ?_)))
      refine Ops.cutHi J J J sNat (by omega) (by simp) J ?_
      rw [← List.map_take]; refine Qv J J J (Qj (hK _ _ (Qb (Q3 ?_)))); clear hK K; refine Q7 (ys.take ((ys.length : Int) - 1).toNat) (by simp; omega) ⟨?_, by simp; omega⟩ (Entails.sub ⟨rfl, trivial⟩); rw [e1, ← hy]; exact trim_last (by omega) h2
    · rw [e1] at h2; refine Qn (Qz (Qw (Qx fun K hK => ?_))); refine Qq J J J (Qv J J J (Qj (hK _ _ (Qz (Q0 ?_))))); clear hK K; refine QU [_] rfl (QQ J QX) (by rw [← hy, trim_done (fun _ => h2)]; rfl) J
  · refine Qy J J J (Qy J J J (Qy J J J (Qy J J J (Qy J J J (Qy J J J (Qy J J J (QK J J J J (Qj (hK _ _ (Qz (Xx J (Qn (Qz (Qw ?_)))))))))))))); clear hK K; refine Qx (fun K hK => ?_); refine Qq J J J (Qv J J J (Qj (hK _ _ (Qz (Q0 ?_))))); clear hK K; refine QU [_] rfl (QQ J QX) (by rw [← hy, trim_done (fun h3 => absurd h3 (by omega))]; rfl) J
theorem gorTrim : InGo Tryz.prog 136 := InGo.of Tryz.func136 (by kernel_rfl) (by kernel_rfl)
set_option maxHeartbeats 2000000 in
theorem rCompare_ok (a b : Nat) (ha : (limbs a).length < 4611686018427387904) (hb : (limbs b).length < 4611686018427387904) : Ok Tryz.prog 133 [natC a, natC b] (intC (cmpI a b)) := by
  refine Ok.enter Tryz.func133 J _ Tryz.ntmps133 J ?_
  intro S w; refine Qw (Qx fun K hK => ?_); refine Qv J J J (Qj (hK _ _ (Qz (Qw (Qw ?_))))); clear hK K; refine Qx (fun K hK => ?_); refine Qq J J J (Qd J J sNat.und (List.length_map ..) J (Qq J J J (Qd J J sNat.und (List.length_map ..) J (Qk ineq J J J J (Qj (hK _ _ (Qz ?_))))))); clear hK K; refine Q2 J (fun h => ?_) (fun h => ?_)
  · have e : cmpI ((limbs a).length : Int) ((limbs b).length : Int) = cmpI (a : Int) (b : Int) := by
      rcases Nat.lt_trichotomy (limbs a).length (limbs b).length with h1 | h1 | h1
      · have := lt_of_len h1; rw [Xn, Xn, if_pos (by omega), if_pos (by omega)]
      · omega
      · have := lt_of_len h1; rw [Xn, Xn, if_neg (by omega), if_pos (by omega), if_neg (by omega), if_pos (by omega)]
    refine Qw (Qx fun K hK => ?_); refine Qq J J J (Qd J J sNat.und (List.length_map ..) J (Qq J J J (Qd J J sNat.und (List.length_map ..) J (QW gorOrder (rOrder_ok _ _) J J J J (Qv J J J (Qj (hK _ _ (Qz (Q0 (QY ?_)))))))))); clear hK K; refine QU [_] rfl (QQ J QX) (by rw [← e]; rfl) J
  · have hl : (limbs a).length = (limbs b).length := by omega
    clear h; refine Q1 (Qz (Qw (Qw (Qx fun K hK => ?_)))); refine Qq J J J (Qd J J sNat.und (List.length_map ..) J (Qk (isub (by omega) (by omega)) J J J J ?_)); refine Qv J J J (Qj (hK _ _ (Qz (Q4 ?_)))); clear hK K
    refine Xz (α := Nat) (fun k => k ≤ (limbs a).length ∧ pre (limbs a) k - pre (limbs b) k = (a : Int) - b)
      (fun k => [(0, .ct (natC a)), (1, .ct (natC b)), (5, .ct (intC ((k : Int) - 1)))]) (fun _ => []) (fun k => k) (limbs a).length ⟨Nat.le_refl _, ?_⟩ (by exact Qu J ⟨rfl, rfl, rfl, trivial⟩) ?_
    · have e1 := val_eq_pre a; have e2 := val_eq_pre b; rw [← hl] at e2; rw [e1, e2]
    intro k ⟨hk, hv⟩; dsimp only; refine Qw (Qw (Qx fun K hK => ?_)); refine Qq J J J (Qk igeq J J J J (Qj (hK _ _ (Qz ?_)))); clear hK K; refine Q2 J (fun h => ?_) (fun h => ?_)
    · obtain ⟨q, rfl⟩ : ∃ q, k = q + 1 := ⟨k - 1, by omega⟩
      have e1 : (((q + 1 : Nat) : Int) - 1) = (q : Int) := by omega
      have e2 : (q : Int).toNat = q := Int.toNat_natCast q; rw [e1]; refine Q1 (Qz (Qw (Q4 (Qw ?_)))); refine Xu mixed 9 (.p 0 (.p 1 (.p 2 (.p 4 (.p 5 (.p 6 (.f 3 (.f 7 (.p 8 .done))))))))) (by kernel_rfl) (fun K hK => ?_); refine Qq J J J (Qq J J J (Qg J J J sNat (by omega) (X5 (by omega) (by omega)) J ?_)); refine Qq J J J (Qq J J J (Qg J J J sNat (by omega) (X5 (by omega) (by omega)) J ?_)); refine Xy J J J lInt J (Xy J J J lInt J (Qk ineq J J J J (Qj (hK _ _ (Qz ?_))))); clear hK K; refine Q2 J (fun h2 => ?_) (fun h2 => ?_)
      · rw [e2] at h2
        have e : cmpI ((limbs a).getD q 0) ((limbs b).getD q 0) = cmpI (a : Int) (b : Int) := by
          rcases Int.lt_or_gt_of_ne h2 with h3 | h3
          · have := pre_decides (Xm a) (Xm b) h3; rw [Xn, Xn, if_pos h3, if_pos (by omega)]
          · have := pre_decides (Xm b) (Xm a) h3; rw [Xn, Xn, if_neg (by omega), if_pos h3, if_neg (by omega), if_pos (by omega)]
        refine Qw (Xu mixed 10 (.p 0 (.p 1 (.p 2 (.p 4 (.p 5 (.p 6 (.f 3 (.f 7 (.m 8 (.p 9 .done)))))))))) (by kernel_rfl) (fun K hK => ?_)); refine Qq J J J (Qq J J J (Qg J J J sNat (by omega) (X5 (by omega) (by omega)) J ?_)); refine Qq J J J (Qq J J J (Qg J J J sNat (by omega) (X5 (by omega) (by omega)) J ?_)); refine Xy J J J lInt J (Xy J J J lInt J (QW gorOrder (rOrder_ok _ _) J J J J ?_)); rw [e2]; refine Qv J J J (Qj (hK _ _ (Qz (Q0 (Q8 (QY (QY (Q8 (QY ?_))))))))); clear hK K; refine QU [_] rfl (QQ J QX) (by rw [← e]; rfl) J
      · rw [e2] at h2; refine Q1 (Qz (Qx fun K hK => ?_)); refine Qq J J J (Qk (isub (by omega) (by omega)) J J J J ?_); refine Qv J J J (Qj (hK _ _ (Q3 ?_))); clear hK K; refine Q7 q (by omega) ⟨by omega, ?_⟩ (by exact Qu J ⟨rfl, rfl, rfl, trivial⟩); rw [Zj, Zj] at hv; have : (limbs a).getD q 0 = (limbs b).getD q 0 := Classical.not_not.1 h2; rw [this] at hv; omega
    · have hk0 : k = 0 := by omega
      subst hk0; rw [Z8, Z8] at hv; refine Qn (Qz (Qw (Qx fun K hK => ?_))); refine Qv J J J (Qj (hK _ _ (Qz (Q0 ?_)))); clear hK K; refine QU [_] rfl (QQ J QX) (by rw [Xn, if_neg (by omega), if_neg (by omega)]; rfl) J
theorem gorCompare : InGo Tryz.prog 133 := InGo.of Tryz.func133 (by kernel_rfl) (by kernel_rfl)
theorem YJ (xs : List Int) (i : Nat) : Ok Tryz.prog 170 [intsC xs, intC i] (intC (xs.getD i 0)) := by
  refine Ok.enter Tryz.func170 J _ Tryz.ntmps170 J ?_
  intro S w; refine Qw (Qx fun K hK => ?_); refine Qv J J J (Qj (hK _ _ (Qz (Qw (Qw ?_))))); clear hK K; refine Qx (fun K hK => ?_); refine Qq J J J (Qq J J J (Qd J J sNat.und (List.length_map ..) J (Qk ilss J J J J (Qj (hK _ _ (Qz ?_)))))); clear hK K; refine Q2 J (fun h => ?_) (fun h => ?_)
  · have e2 : (i : Int).toNat = i := Int.toNat_natCast i; refine Qw (Qx fun K hK => ?_); refine Qq J J J (Qq J J J (Qg J J J sNat (by omega) (X5 (by omega) (by omega)) J ?_)); refine Xy J J J lInt J (Qv J J J (Qj (hK _ _ (Qz (Q0 (QY ?_)))))); clear hK K; rw [e2]; skip; refine QU [_] rfl (QQ J QX) J J
  · refine Q1 (Qz (Qw (Qx fun K hK => ?_))); refine Qv J J J (Qj (hK _ _ (Qz (Q0 ?_)))); clear hK K; refine QU [_] rfl (QQ J QX) (by rw [List.getD_eq_getElem?_getD, List.getElem?_eq_none (by omega)]; rfl) J
theorem gorlimb : InGo Tryz.prog 170 := InGo.of Tryz.func170 (by kernel_rfl) (by kernel_rfl)
theorem limbs_top {n : Nat} (h : 0 < (limbs n).length) : (limbs n).getD ((limbs n).length - 1) 0 ≠ 0 := fun h0 => by
  have h1 := trim_last h h0
  rw [trim_of_limbs] at h1
  have h2 := trim_len ((limbs n).take ((limbs n).length - 1))
  rw [h1] at h2
  simp at h2; omega
theorem getD_past {xs : List Int} {i : Nat} (h : xs.length ≤ i) : xs.getD i 0 = 0 := by
  rw [List.getD_eq_getElem?_getD, List.getElem?_eq_none (by omega)]; rfl
set_option maxHeartbeats 2000000 in
theorem rPlus_ok (a b : Nat) (ha : (limbs a).length ≤ 1000000) (hb : (limbs b).length ≤ 1000000) : Ok Tryz.prog 131 [natC a, natC b] (natC (a + b)) := by
  refine Ok.enter Tryz.func131 J _ Tryz.ntmps131 J ?_
  intro S w; refine Qw (Qx fun K hK => ?_); refine Qv J J J (Qj (hK _ _ (Qz (Qw ?_)))); clear hK K; refine Qx (fun K hK => ?_); refine Qv J J J (Qj (hK _ _ (Qz (Qw ?_)))); clear hK K; refine Qx (fun K hK => ?_); refine Qv J J J (Qj (hK _ _ (Qz (Qw (Qw ?_))))); clear hK K; refine Qx (fun K hK => ?_); refine Qv J J J (Qj (hK _ _ (Qz (Q4 ?_)))); clear hK K
  refine Xf 5 0 3 1 J J J ?_
  skip
  refine Xz (α := Nat × List Int × Int) (fun s => s.2.1.length = s.1 ∧ OKL s.2.1 ∧ 0 ≤ s.2.2 ∧ s.2.2 ≤ 1 ∧ (s.1 ≤ max (limbs a).length (limbs b).length ∨ s.2.2 = 0) ∧ s.1 ≤ max (limbs a).length (limbs b).length + 1 ∧ val s.2.1 + s.2.2 * BB ^ s.1 = pre (limbs a) s.1 + pre (limbs b) s.1 ∧
      (max (limbs a).length (limbs b).length ≤ s.1 → s.2.2 = 0 → trimL s.2.1 = s.2.1))
    (fun s => [(0, .ct (natC a)), (1, .ct (natC b)), (5, .own 0), (6, .ct (intC s.2.2)), (7, .ct (intC s.1))]) (fun s => [(0, .row 3 1 (ints s.2.1))])
    (fun s => 2 * (max (limbs a).length (limbs b).length - s.1) + s.2.2.toNat) (0, [], 0) ⟨rfl, OKL.nil, by decide, by decide, .inr J, Nat.zero_le _, by simp [val, Z8], fun _ _ => rfl⟩ (by exact Qu J ⟨rfl, rfl, rfl, rfl, rfl, trivial⟩) ?_
  rintro ⟨i, zs, c⟩ ⟨hz, hok, hc0, hc1, hor, hi, hv, ht⟩
  dsimp only at hz hok hc0 hc1 hor hi hv ht ⊢; have b1 := (Xm a).get i; have b2 := (Xm b).get i; have t1 := limbs_top (n := a); have t2 := limbs_top (n := b); have p1 := getD_past (xs := limbs a) (i := i); have p2 := getD_past (xs := limbs b) (i := i); simp only [BB] at b1 b2
  have step : ((i : Int) < (limbs a).length ∨ (i : Int) < (limbs b).length ∨ 0 < c) →
      (2 * (max (limbs a).length (limbs b).length - (i + 1)) + ((((limbs a).getD i 0 + (limbs b).getD i 0 + c) / 1073741824).toNat) < 2 * (max (limbs a).length (limbs b).length - i) + c.toNat) ∧
      ((zs ++ [((limbs a).getD i 0 + (limbs b).getD i 0 + c) % 1073741824]).length = i + 1 ∧ OKL (zs ++ [((limbs a).getD i 0 + (limbs b).getD i 0 + c) % 1073741824]) ∧ 0 ≤ ((limbs a).getD i 0 + (limbs b).getD i 0 + c) / 1073741824 ∧ ((limbs a).getD i 0 + (limbs b).getD i 0 + c) / 1073741824 ≤ 1 ∧ (i + 1 ≤ max (limbs a).length (limbs b).length ∨ ((limbs a).getD i 0 + (limbs b).getD i 0 + c) / 1073741824 = 0) ∧ i + 1 ≤ max (limbs a).length (limbs b).length + 1 ∧ val (zs ++ [((limbs a).getD i 0 + (limbs b).getD i 0 + c) % 1073741824]) + ((limbs a).getD i 0 + (limbs b).getD i 0 + c) / 1073741824 * BB ^ (i + 1) = pre (limbs a) (i + 1) + pre (limbs b) (i + 1) ∧
      (max (limbs a).length (limbs b).length ≤ i + 1 → ((limbs a).getD i 0 + (limbs b).getD i 0 + c) / 1073741824 = 0 → trimL (zs ++ [((limbs a).getD i 0 + (limbs b).getD i 0 + c) % 1073741824]) = zs ++ [((limbs a).getD i 0 + (limbs b).getD i 0 + c) % 1073741824])) := by
    intro hgo; refine ⟨by omega, by simp [hz], hok.append (OKL.cons (by simp only [BB]; omega) OKL.nil), by omega, by omega, by omega, by omega, ?_, ?_⟩
    · rw [val_append, hz, Zj, Zj]; have e := Int.mul_ediv_add_emod ((limbs a).getD i 0 + (limbs b).getD i 0 + c) 1073741824; clear t1 t2 p1 p2 ht hor hgo; simp only [val, BB] at *; generalize ((limbs a).getD i 0 + (limbs b).getD i 0 + c) / 1073741824 = q at *; generalize ((limbs a).getD i 0 + (limbs b).getD i 0 + c) % 1073741824 = m at *
      grind
    · intro hm hcz
      refine trim_id ?_
      have hx : (limbs a).getD i 0 + (limbs b).getD i 0 + c ≠ 0 := by
        rcases hgo with hg | hg | hg
        · rcases Nat.lt_or_ge (i + 1) (limbs a).length with h5 | h5
          · omega
          · have e5 : (limbs a).length - 1 = i := by omega
            rw [e5] at t1; have := t1 (by omega); omega
        · rcases Nat.lt_or_ge (i + 1) (limbs b).length with h5 | h5
          · omega
          · have e5 : (limbs b).length - 1 = i := by omega
            rw [e5] at t2; have := t2 (by omega); omega
        · omega
      omega
  have fin : ¬ ((i : Int) < (limbs a).length ∨ (i : Int) < (limbs b).length ∨ 0 < c) → natC (a + b) = intsC zs := by
    intro hgo
    have hc : c = 0 := by omega
    have h1 := ht (by omega) hc; rw [hc, Int.zero_mul, Yx (by omega), Yx (by omega), ZW, ZW] at hv; rw [show intsC zs = intsC (trimL zs) by rw [h1], Z3 hok, show (val zs).toNat = a + b by omega]
  have e2 : (i : Int).toNat = i := Int.toNat_natCast i; clear ht hor t1 t2 p1 p2; refine Qw (Qw (Qx fun K hK => ?_)); refine Qq J J J (Qq J J J (Qd J J sNat.und (List.length_map ..) J (Qk ilss J J J J (Qq J J J (Q5 13 J (fun g1 => ?_) (fun g1 => ?_))))))
  · have st := step (.inl g1); clear step fin; refine Qy J J J (Qy J J J (Qy J J J (Qy J J J (QZ J J J J (Qq J J J (Qy J J J (Qy J J J (QZ J J J J (Qj (hK _ _ (Qz (Qo J (Q1 (Qz (Qw (Q4 (Qw ?_))))))))))))))))); clear hK K; refine Qx (fun K hK => ?_); refine Qq J J J (Qq J J J (QW gorlimb (YJ (limbs a) i) J J J J (Qq J J J (Qq J J J (QW gorlimb (YJ (limbs b) i) J J J J (Qk (iadd (by omega) (by omega)) J J J J ?_)))))); refine Qq J J J (Qk (iadd (by omega) (by omega)) J J J J ?_); refine Qv J J J (Qj (hK _ _ (Qz (Qw ?_)))); clear hK K; refine Qx (fun K hK => ?_); refine Qq J J J (Qq J J J (Qk (irem (by omega) (by omega)) J J J J ?_)); refine Xp J J sNat J J J (Qs zs.length (ints (zs ++ [((limbs a).getD i 0 + (limbs b).getD i 0 + c) % 1073741824])) J J J J sNat (by simp [ints]) J (by omega) (by omega) (by simp [ints]) J ?_); refine Qv J J J (Qj (hK _ _ (Qz ?_))); clear hK K; refine Qx (fun K hK => ?_); refine Qq J J J (Qk (iquo (by omega) (by omega) (by omega)) J J J J ?_); refine Qv J J J (Qj (hK _ _ (Qz ?_))); clear hK K; refine Qx (fun K hK => ?_); refine Qq J J J (Qk (iadd (by omega) (by omega)) J J J J ?_); refine Qv J J J (Qj (hK _ _ (Q3 ?_)))
    clear hK K; refine Q7 (i + 1, zs ++ [((limbs a).getD i 0 + (limbs b).getD i 0 + c) % 1073741824], ((limbs a).getD i 0 + (limbs b).getD i 0 + c) / 1073741824) st.1 st.2 (by exact Qu J ⟨rfl, rfl, rfl, rfl, by simp only [Int.natCast_add]; rfl, trivial⟩)
  · refine Qq J J J (Qq J J J (Qd J J sNat.und (List.length_map ..) J (Qk ilss J J J J (QK J J J J (Qq J J J (Q5 19 J (fun g2 => ?_) (fun g2 => ?_)))))))
    · have st := step (.inr (.inl g2)); clear step fin; refine Qy J J J (Qy J J J (QZ J J J J (Qj (hK _ _ (Qz (Qo J (Q1 (Qz (Qw (Q4 (Qw ?_))))))))))); clear hK K; refine Qx (fun K hK => ?_); refine Qq J J J (Qq J J J (QW gorlimb (YJ (limbs a) i) J J J J (Qq J J J (Qq J J J (QW gorlimb (YJ (limbs b) i) J J J J (Qk (iadd (by omega) (by omega)) J J J J ?_)))))); refine Qq J J J (Qk (iadd (by omega) (by omega)) J J J J ?_); refine Qv J J J (Qj (hK _ _ (Qz (Qw ?_)))); clear hK K; refine Qx (fun K hK => ?_); refine Qq J J J (Qq J J J (Qk (irem (by omega) (by omega)) J J J J ?_)); refine Xp J J sNat J J J (Qs zs.length (ints (zs ++ [((limbs a).getD i 0 + (limbs b).getD i 0 + c) % 1073741824])) J J J J sNat (by simp [ints]) J (by omega) (by omega) (by simp [ints]) J ?_); refine Qv J J J (Qj (hK _ _ (Qz ?_))); clear hK K; refine Qx (fun K hK => ?_); refine Qq J J J (Qk (iquo (by omega) (by omega) (by omega)) J J J J ?_); refine Qv J J J (Qj (hK _ _ (Qz ?_))); clear hK K; refine Qx (fun K hK => ?_); refine Qq J J J (Qk (iadd (by omega) (by omega)) J J J J ?_); refine Qv J J J (Qj (hK _ _ (Q3 ?_))); clear hK K
      refine Q7 (i + 1, zs ++ [((limbs a).getD i 0 + (limbs b).getD i 0 + c) % 1073741824], ((limbs a).getD i 0 + (limbs b).getD i 0 + c) / 1073741824) st.1 st.2 (by exact Qu J ⟨rfl, rfl, rfl, rfl, by simp only [Int.natCast_add]; rfl, trivial⟩)
    · refine Qq J J J (Qk igtr J J J J (QK J J J J (Qj (hK _ _ (Qz ?_))))); clear hK K; refine Q2 J (fun g3 => ?_) (fun g3 => ?_)
      · have st := step (.inr (.inr g3)); clear step fin; refine Q1 (Qz (Qw (Q4 (Qw (Qx fun K hK => ?_))))); refine Qq J J J (Qq J J J (QW gorlimb (YJ (limbs a) i) J J J J (Qq J J J (Qq J J J (QW gorlimb (YJ (limbs b) i) J J J J (Qk (iadd (by omega) (by omega)) J J J J ?_)))))); refine Qq J J J (Qk (iadd (by omega) (by omega)) J J J J ?_); refine Qv J J J (Qj (hK _ _ (Qz (Qw ?_)))); clear hK K; refine Qx (fun K hK => ?_); refine Qq J J J (Qq J J J (Qk (irem (by omega) (by omega)) J J J J ?_)); refine Xp J J sNat J J J (Qs zs.length (ints (zs ++ [((limbs a).getD i 0 + (limbs b).getD i 0 + c) % 1073741824])) J J J J sNat (by simp [ints]) J (by omega) (by omega) (by simp [ints]) J ?_); refine Qv J J J (Qj (hK _ _ (Qz ?_))); clear hK K; refine Qx (fun K hK => ?_); refine Qq J J J (Qk (iquo (by omega) (by omega) (by omega)) J J J J ?_); refine Qv J J J (Qj (hK _ _ (Qz ?_))); clear hK K; refine Qx (fun K hK => ?_); refine Qq J J J (Qk (iadd (by omega) (by omega)) J J J J ?_); refine Qv J J J (Qj (hK _ _ (Q3 ?_))); clear hK K
        refine Q7 (i + 1, zs ++ [((limbs a).getD i 0 + (limbs b).getD i 0 + c) % 1073741824], ((limbs a).getD i 0 + (limbs b).getD i 0 + c) / 1073741824) st.1 st.2 (by exact Qu J ⟨rfl, rfl, rfl, rfl, by simp only [Int.natCast_add]; rfl, trivial⟩)
      · have fe := fin (by omega); refine Yq 0 _ J (Zk _ _) X7 (Qn (Qz (Qw (Qx fun K hK => ?_)))); refine Qq J J J (Qv J J J (Qj (hK _ _ (Qz (Q0 ?_))))); clear hK K; refine QU [_] rfl (QQ J QX) (by rw [fe]; rfl) J
theorem gorPlus : InGo Tryz.prog 131 := InGo.of Tryz.func131 (by kernel_rfl) (by kernel_rfl)
theorem val_sub_done {a b : Nat} {zs : List Int} {c : Int} (hok : OKL zs) (hzl : zs.length = (limbs a).length) (hb : b ≤ a) (hc0 : 0 ≤ c) (hc1 : c ≤ 1)
    (hv : val zs - c * BB ^ (limbs a).length = pre (limbs a) (limbs a).length - pre (limbs b) (limbs a).length) : trimL zs = limbs (a - b) := by
  have hlb := Xc hb; rw [Z3 hok]; rw [Yx (Nat.le_refl _), Yx hlb, ZW, ZW] at hv; have hp : 0 < BB ^ (limbs a).length := Int.pow_pos (by decide); have h1 := pre_bd hok (limbs a).length; rw [Yx (by omega)] at h1
  have hc : c = 0 := by
    rcases Int.lt_or_le 0 c with hc | hc
    · have : c = 1 := by omega
      subst this; rw [Int.one_mul] at hv; omega
    · omega
  subst hc; rw [Int.zero_mul] at hv
  congr 1; omega
theorem less_step {v c P A B x y d c' K : Int} (h : v - c * P = A - B) (e : x - y - c = d - c' * K) : v + P * d - c' * (P * K) = (A + x * P) - (B + y * P) := by
  have h2 : P * (x - y - c) = P * (d - c' * K) := by rw [e]
  grind
set_option maxHeartbeats 2000000 in
theorem rLess_ok (a b : Nat) (hb : b ≤ a) (hx : (limbs a).length ≤ 1000000) : Ok Tryz.prog 134 [natC a, natC b] (natC (a - b)) := by
  refine Ok.enter Tryz.func134 J _ Tryz.ntmps134 J ?_
  intro S w; refine Qw (Qx fun K hK => ?_); refine Qv J J J (Qj (hK _ _ (Qz (Qw ?_)))); clear hK K; refine Qx (fun K hK => ?_); refine Qv J J J (Qj (hK _ _ (Qz (Qw ?_)))); clear hK K; refine Qx (fun K hK => ?_); refine Qv J J J (Qj (hK _ _ (Qz (Qw (Qw ?_))))); clear hK K; refine Qx (fun K hK => ?_); refine Qv J J J (Qj (hK _ _ (Qz (Q4 ?_)))); clear hK K
  refine Xf 5 0 3 1 J J J ?_
  skip
  refine Xz (α := Nat × List Int × Int) (fun s => s.1 ≤ (limbs a).length ∧ s.2.1.length = s.1 ∧ OKL s.2.1 ∧ 0 ≤ s.2.2 ∧ s.2.2 ≤ 1 ∧ val s.2.1 - s.2.2 * BB ^ s.1 = pre (limbs a) s.1 - pre (limbs b) s.1)
    (fun s => [(0, .ct (natC a)), (1, .ct (natC b)), (5, .own 0), (6, .ct (intC s.2.2)), (7, .ct (intC s.1))])
    (fun s => [(0, .row 3 1 (ints s.2.1))])
    (fun s => (limbs a).length - s.1) (0, [], 0) ⟨Nat.zero_le _, rfl, OKL.nil, by decide, by decide, by simp [val, Z8]⟩ (by exact Qu J ⟨rfl, rfl, rfl, rfl, rfl, trivial⟩) ?_
  rintro ⟨i, zs, c⟩ ⟨hi, hz, hok, hc0, hc1, hv⟩
  dsimp only at hi hz hok hc0 hc1 hv ⊢; refine Qw (Qw (Qx fun K hK => ?_)); refine Qq J J J (Qq J J J (Qd J J sNat.und (List.length_map ..) J (Qk ilss J J J J (Qj (hK _ _ (Qz ?_)))))); clear hK K; refine Q2 J (fun h => ?_) (fun h => ?_)
  · have b1 := (Xm a).get i; have b2 := (Xm b).get i; simp only [BB] at b1 b2; have e2 : (i : Int).toNat = i := Int.toNat_natCast i; refine Q1 (Qz (Qw (Q4 (Qw ?_)))); refine Xu mixed 11 (.p 0 (.p 1 (.p 2 (.p 4 (.p 5 (.p 8 (.f 3 (.m 6 (.p 7 (.p 9 (.p 10 .done))))))))))) (by kernel_rfl) (fun K hK => ?_); refine Qq J J J (Qq J J J (Qg J J J sNat (by omega) (X5 (by omega) (by omega)) J ?_)); refine Qq J J J (Qq J J J (Qq J J J (Xy J J J lInt J ?_))); rw [e2]; skip; refine QW gorlimb (YJ (limbs b) i) J J J J (Qk (isub (by omega) (by omega)) J J J J ?_)
    refine Qk (isub (by omega) (by omega)) J J J J ?_
    refine Qv J J J (Qj (hK _ _ (Qz (Qw ?_)))); clear hK K; refine Qx (fun K hK => ?_); refine Qv J J J (Qj (hK _ _ (Qz (Qw (Qw ?_))))); clear hK K; refine Qx (fun K hK => ?_); refine Qq J J J (Qk ilss J J J J (Qj (hK _ _ (Qz ?_)))); clear hK K; refine Q2 J (fun h2 => ?_) (fun h2 => ?_)
    · refine Qw (Qx fun K hK => ?_); refine Qq J J J (Qk (iadd (by omega) (by omega)) J J J J ?_); refine Qv J J J (Qj (hK _ _ (Qz ?_))); clear hK K; refine Qx (fun K hK => ?_); refine Qv J J J (Qj (hK _ _ (Qz ?_))); clear hK K; refine Qx (fun K hK => ?_); refine Qq J J J (Qq J J J (Xp J J sNat J J J (Qs zs.length (ints (zs ++ [(limbs a).getD i 0 - (limbs b).getD i 0 - c + 1073741824])) J J J J sNat (by simp [ints]) J (by omega) (by omega) (by simp [ints]) J ?_))); refine Qv J J J (Qj (hK _ _ (Qz ?_))); clear hK K; refine Qx (fun K hK => ?_); refine Qq J J J (Qk (iadd (by omega) (by omega)) J J J J ?_); refine Qv J J J (Qj (hK _ _ (Q3 ?_))); clear hK K; refine Q7 (i + 1, zs ++ [(limbs a).getD i 0 - (limbs b).getD i 0 - c + 1073741824], 1) (by dsimp only; omega) ⟨by dsimp only; omega, by simp [hz], ?_, by show (0 : Int) ≤ 1; decide, by show (1 : Int) ≤ 1; decide, ?_⟩ (by exact Qu J ⟨rfl, rfl, rfl, rfl, by simp only [Int.natCast_add]; rfl, trivial⟩)
      all_goals dsimp only
      · exact hok.append (OKL.cons (by simp only [BB]; omega) OKL.nil)
      · rw [val_append, hz, Zj, Zj, Int.pow_succ]; simp only [val, Int.mul_zero, Int.add_zero]; exact less_step hv (by simp only [BB]; omega)
    · refine Q1 (Qz (Qx fun K hK => ?_)); refine Qq J J J (Qq J J J (Xp J J sNat J J J (Qs zs.length (ints (zs ++ [(limbs a).getD i 0 - (limbs b).getD i 0 - c])) J J J J sNat (by simp [ints]) J (by omega) (by omega) (by simp [ints]) J ?_))); refine Qv J J J (Qj (hK _ _ (Qz ?_))); clear hK K; refine Qx (fun K hK => ?_); refine Qq J J J (Qk (iadd (by omega) (by omega)) J J J J ?_); refine Qv J J J (Qj (hK _ _ (Q3 ?_))); clear hK K; refine Q7 (i + 1, zs ++ [(limbs a).getD i 0 - (limbs b).getD i 0 - c], 0) (by dsimp only; omega) ⟨by dsimp only; omega, by simp [hz], ?_, by show (0 : Int) ≤ 0; decide, by show (0 : Int) ≤ 1; decide, ?_⟩ (by exact Qu J ⟨rfl, rfl, rfl, rfl, by simp only [Int.natCast_add]; rfl, trivial⟩)
      all_goals dsimp only
      · exact hok.append (OKL.cons (by simp only [BB]; omega) OKL.nil)
      · rw [val_append, hz, Zj, Zj, Int.pow_succ]; simp only [val, Int.mul_zero, Int.add_zero]; exact less_step hv (by simp only [BB]; omega)
  · have hi' : i = (limbs a).length := by omega
    subst hi'; have e4 := val_sub_done hok hz hb hc0 hc1 hv; refine Yq 0 _ J (Zk _ _) X7 (Qn (Qz (Qw (Qx fun K hK => ?_)))); refine Qq J J J (QW gorTrim (rTrim_ok zs (by omega)) J J J J ?_); rw [e4]; refine Qv J J J (Qj (hK _ _ (Qz (Q0 ?_)))); clear hK K; refine QU [_] rfl (QQ J QX) J J
theorem gorLess : InGo Tryz.prog 134 := InGo.of Tryz.func134 (by kernel_rfl) (by kernel_rfl)
set_option maxHeartbeats 2000000 in
theorem rhalf_ok (a : Nat) (hl : (limbs a).length ≤ 1000000) : Ok Tryz.prog 132 [natC a] (natC (a / 2)) := by
  refine Ok.enter Tryz.func132 J _ Tryz.ntmps132 J ?_
  intro S w; refine Qw (Qx fun K hK => ?_); refine Qv J J J (Qj (hK _ _ (Qz (Qw ?_)))); clear hK K; refine Qx (fun K hK => ?_); refine Qq J J J (Qd J J sNat.und (List.length_map ..) J (Ops.make 0 (limbs a).length J J J J sNat (by omega) (by omega) J J J ?_)); rw [ints_made]; refine Qv J J J (Qj (hK _ _ (Qz (Qw ?_)))); clear hK K; refine Qx (fun K hK => ?_); refine Qv J J J (Qj (hK _ _ (Qz (Qw (Qw ?_))))); clear hK K; refine Qx (fun K hK => ?_); refine Qq J J J (Qd J J sNat.und (List.length_map ..) J (Qk (isub (by omega) (by omega)) J J J J ?_)); refine Qv J J J (Qj (hK _ _ (Qz (Q4 ?_)))); clear hK K
  refine Xz (α := Nat × List Int × Int) (fun s => s.1 ≤ (limbs a).length ∧ s.2.1.length = (limbs a).length ∧ OKL s.2.1 ∧ (∀ j, j < s.1 → s.2.1.getD j 0 = 0) ∧ 0 ≤ s.2.2 ∧ s.2.2 < 2 ∧ val s.2.1 * 2 + s.2.2 * BB ^ s.1 = val (limbs a) - pre (limbs a) s.1)
    (fun s => [(0, .ct (natC a)), (3, .own 0), (4, .ct (intC s.2.2)), (5, .ct (intC ((s.1 : Int) - 1)))])
    (fun s => [(0, .row 3 1 (ints s.2.1))]) (fun s => s.1) ((limbs a).length, List.replicate (limbs a).length 0, 0) ⟨Nat.le_refl _, by simp, OKL.zeros _, ?_, Int.le_refl _, by show (0 : Int) < 2; decide, ?_⟩ (by exact Qu J ⟨rfl, rfl, rfl, rfl, trivial⟩) ?_
  · intro j _; simp [List.getD_eq_getElem?_getD, List.getElem?_replicate]; split <;> rfl
  · dsimp only; rw [val_zeros, Yx (Nat.le_refl _)]; simp
  rintro ⟨q, zs, rest⟩ ⟨hq, hzl, hok, hz, hr0, hr1, hv⟩
  dsimp only at hq hzl hok hz hr0 hr1 hv ⊢; refine Qw (Qw (Qx fun K hK => ?_)); refine Qq J J J (Qk igeq J J J J (Qj (hK _ _ (Qz ?_)))); clear hK K; refine Q2 J (fun h => ?_) (fun h => ?_)
  · obtain ⟨i, rfl⟩ : ∃ i, q = i + 1 := ⟨q - 1, by omega⟩
    have e1 : (((i + 1 : Nat) : Int) - 1) = (i : Int) := by omega
    have e2 : (i : Int).toNat = i := Int.toNat_natCast i
    have e3 : (i : Int).toNat * 1 = i := by omega
    have bx := (Xm a).get i; simp only [BB] at bx; rw [e1]; refine Q1 (Qz (Qw (Q4 (Qw (Qx fun K hK => ?_))))); refine Qq J J J (Qq J J J (Qg J J J sNat (by omega) (X5 (by omega) (by omega)) J ?_)); refine Xy J J J lInt J (Qq J J J (Qk (imul (by omega) (by omega)) J J J J ?_)); rw [e2]
    refine Qk (iadd (by omega) (by omega)) J J J J ?_
    refine Qv J J J (Qj (hK _ _ (Qz (Qw ?_)))); clear hK K; refine Qx (fun K hK => ?_); refine Qq J J J (Qq J J J (Qq J J J (Qk (iquo (by omega) (by omega) (by omega)) J J J J ?_))); rw [show (limbs a).getD i 0 + rest * 1073741824 = rest * 1073741824 + (limbs a).getD i 0 from Int.add_comm _ _]; skip
    refine Xi (limbs a).length J J J (by simp [ints]; omega) J sNat (by omega) (by omega) J ?_
    rw [e3]
    refine Xh J J J J J zInt (by simp [Ent.cs, ints]; omega) ?_
    simp only [Ent.setc, ints_set]; refine Qj (hK _ _ (Qz ?_)); clear hK K; refine Qx (fun K hK => ?_); refine Qq J J J (Qk (irem (by omega) (by omega)) J J J J ?_); refine Qv J J J (Qj (hK _ _ (Qz ?_))); clear hK K; refine Qx (fun K hK => ?_); refine Qq J J J (Qk (isub (by omega) (by omega)) J J J J ?_); refine Qv J J J (Qj (hK _ _ (Q3 ?_))); clear hK K; refine Q7 (i, zs.set i ((rest * 1073741824 + (limbs a).getD i 0) / 2), (rest * 1073741824 + (limbs a).getD i 0) % 2) (by dsimp only; omega) ⟨by dsimp only; omega, by simp [hzl], ?_, ?_, by dsimp only; omega, by dsimp only; omega, ?_⟩ (by exact Qu J ⟨rfl, rfl, rfl, rfl, trivial⟩)
    all_goals dsimp only
    · exact hok.set _ (by simp only [BB]; omega)
    · intro j hj; rw [getD_set (by omega), if_neg (by omega)]; exact hz j (by omega)
    · rw [val_set (by omega), hz i (by omega), Int.sub_zero]; exact top_step hv
  · have hq0 : q = 0 := by omega
    subst hq0
    have e4 : val zs * 2 + rest = a := by rw [Z8, ZW] at hv; simpa using hv
    have e5 : (val zs).toNat = a / 2 := by omega
    refine Yq 0 _ J (Zk _ _) X7 (Qn (Qz (Qw (Qx fun K hK => ?_)))); refine Qq J J J (QW gorTrim (rTrim_ok zs (by omega)) J J J J ?_); rw [Z3 hok, e5]; refine Qv J J J (Qj (hK _ _ (Qz (Q0 ?_)))); clear hK K; refine QU [_] rfl (QQ J QX) J J
theorem gorhalf : InGo Tryz.prog 132 := InGo.of Tryz.func132 (by kernel_rfl) (by kernel_rfl)
set_option maxHeartbeats 4000000 in
theorem rTimes_ok (a b : Nat) (hx : (limbs a).length + (limbs b).length ≤ 1000000) : Ok Tryz.prog 135 [natC a, natC b] (natC (a * b)) := by
  refine Ok.enter Tryz.func135 Y _ Tryz.ntmps135 Y ?_
  intro S w; refine Qw (Qx fun K hK => ?_); refine Qv Y Y Y (Qj (hK _ _ (Qz (Qw ?_)))); clear hK K; refine Qx (fun K hK => ?_); refine Qq Y Y Y (Qd Y Y sNat.und (List.length_map ..) Y (Qq Y Y Y (Qd Y Y sNat.und (List.length_map ..) Y (Qk (iadd (by omega) (by omega)) Y Y Y Y ?_))))
  refine Ops.make 0 ((limbs a).length + (limbs b).length) Y Y Y (by omega) sNat (by omega) (by omega) Y Y Y ?_
  rw [ints_made]; refine Qv Y Y Y (Qj (hK _ _ (Qz (Qw (Qw ?_))))); clear hK K; refine Qx (fun K hK => ?_); refine Qv Y Y Y (Qj (hK _ _ (Qz (Q4 ?_)))); clear hK K
  refine Xz (α := Nat × List Int) (fun s => s.1 ≤ (limbs a).length ∧ s.2.length = (limbs a).length + (limbs b).length ∧ OKL s.2 ∧ (∀ j, s.1 + (limbs b).length ≤ j → s.2.getD j 0 = 0) ∧ val s.2 = pre (limbs a) s.1 * b)
    (fun s => [(0, .ct (natC a)), (1, .ct (natC b)), (5, .own 0), (6, .ct (intC s.1))])
    (fun s => [(0, .row 3 1 (ints s.2))])
    (fun s => (limbs a).length - s.1) (0, List.replicate ((limbs a).length + (limbs b).length) 0) ⟨Nat.zero_le _, by simp, OKL.zeros _, ?_, ?_⟩ (by exact Qu Y ⟨rfl, rfl, rfl, rfl, trivial⟩) ?_
  · intro j _; simp [List.getD_eq_getElem?_getD, List.getElem?_replicate]; split <;> rfl
  · rw [Z8, val_zeros]; simp
  rintro ⟨i, out⟩ ⟨hi, hlen, hok, hz, hv⟩
  dsimp only at hi hlen hok hz hv ⊢; refine Qw (Qw (Qx fun K hK => ?_)); refine Qq Y Y Y (Qq Y Y Y (Qd Y Y sNat.und (List.length_map ..) Y (Qk ilss Y Y Y Y (Qj (hK _ _ (Qz ?_)))))); clear hK K; refine Q2 Y (fun h => ?_) (fun h => ?_)
  · have bx := (Xm a).get i; have eix : (i : Int).toNat = i := Int.toNat_natCast i; refine Q1 (Qz (Qw (Q4 (Qw (Qx fun K hK => ?_))))); refine Qv Y Y Y (Qj (hK _ _ (Qz (Qw ?_)))); clear hK K; refine Qx (fun K hK => ?_); refine Qv Y Y Y (Qj (hK _ _ (Qz (Q4 ?_)))); clear hK K
    refine Xz (α := Nat × List Int × Int) (fun s => (s.1 ≤ (limbs b).length ∨ s.2.2 = 0) ∧ s.1 ≤ (limbs b).length + 1 ∧ s.2.1.length = (limbs a).length + (limbs b).length ∧ OKL s.2.1 ∧ (∀ j, i + (limbs b).length + 1 ≤ j → s.2.1.getD j 0 = 0) ∧ (s.1 ≤ (limbs b).length → s.2.1.getD (i + (limbs b).length) 0 = 0) ∧ 0 ≤ s.2.2 ∧ s.2.2 < BB ∧
        val s.2.1 + s.2.2 * BB ^ (i + s.1) = val out + (limbs a).getD i 0 * pre (limbs b) s.1 * BB ^ i)
      (fun s => [(0, .ct (natC a)), (1, .ct (natC b)), (5, .own 0), (6, .ct (intC i)), (7, .ct (intC s.2.2)), (8, .ct (intC s.1))])
      (fun s => [(0, .row 3 1 (ints s.2.1))])
      (fun s => (limbs b).length + 2 - s.1) (0, out, 0) ⟨.inr Y, Nat.zero_le _, hlen, hok, fun j hj => hz j (by omega), fun _ => hz _ (Nat.le_refl _), Int.le_refl _, by show (0 : Int) < BB; decide, by rw [Z8]; simp⟩ (by exact Qu Y ⟨rfl, rfl, rfl, rfl, rfl, rfl, trivial⟩) ?_
    rintro ⟨q, zs, c⟩ ⟨hqc, hq, hzl, hzok, hzz, hzt, hc0, hc1, hzv⟩
    dsimp only at hqc hq hzl hzok hzz hzt hc0 hc1 hzv ⊢
    have by' := (Xm b).get q
    have bz := hzok.get (i + q)
    have bm := mul_bd bx by'
    have hpast := getD_past (xs := limbs b) (i := q); simp only [BB] at bz hc1 bx; have eq1 : (q : Int).toNat = q := Int.toNat_natCast q
    have eiq : ((i : Int) + q).toNat * 1 = i + q := by omega
    have step : q ≤ (limbs b).length →
        ((limbs b).length + 2 - (q + 1) < (limbs b).length + 2 - q) ∧ ((q + 1 ≤ (limbs b).length ∨ (zs.getD (i + q) 0 + (limbs a).getD i 0 * (limbs b).getD q 0 + c) / 1073741824 = 0) ∧ q + 1 ≤ (limbs b).length + 1 ∧ (zs.set (i + q) ((zs.getD (i + q) 0 + (limbs a).getD i 0 * (limbs b).getD q 0 + c) % 1073741824)).length = (limbs a).length + (limbs b).length ∧ OKL (zs.set (i + q) ((zs.getD (i + q) 0 + (limbs a).getD i 0 * (limbs b).getD q 0 + c) % 1073741824)) ∧ (∀ j, i + (limbs b).length + 1 ≤ j → (zs.set (i + q) ((zs.getD (i + q) 0 + (limbs a).getD i 0 * (limbs b).getD q 0 + c) % 1073741824)).getD j 0 = 0) ∧ (q + 1 ≤ (limbs b).length → (zs.set (i + q) ((zs.getD (i + q) 0 + (limbs a).getD i 0 * (limbs b).getD q 0 + c) % 1073741824)).getD (i + (limbs b).length) 0 = 0) ∧ 0 ≤ (zs.getD (i + q) 0 + (limbs a).getD i 0 * (limbs b).getD q 0 + c) / 1073741824 ∧ (zs.getD (i + q) 0 + (limbs a).getD i 0 * (limbs b).getD q 0 + c) / 1073741824 < BB ∧
        val (zs.set (i + q) ((zs.getD (i + q) 0 + (limbs a).getD i 0 * (limbs b).getD q 0 + c) % 1073741824)) + (zs.getD (i + q) 0 + (limbs a).getD i 0 * (limbs b).getD q 0 + c) / 1073741824 * BB ^ (i + (q + 1)) = val out + (limbs a).getD i 0 * pre (limbs b) (q + 1) * BB ^ i) := by
      intro hqb; refine ⟨by omega, ?_, by omega, by simp [hzl], hzok.set _ (by simp only [BB]; omega), ?_, ?_, by omega, by simp only [BB]; omega, ?_⟩
      · rcases Nat.lt_or_ge q (limbs b).length with h5 | h5
        · exact .inl h5
        · have h6 : q = (limbs b).length := by omega
          right; have := hzt hqb; rw [← h6] at this; rw [this, hpast h5, Int.mul_zero]; omega
      · intro j hj; rw [getD_set (by omega), if_neg (by omega)]; exact hzz j hj
      · intro h5; rw [getD_set (by omega), if_neg (by omega)]; exact hzt hqb
      · rw [val_set (by omega), Zj, show i + (q + 1) = (i + q) + 1 by omega, Int.pow_succ, Int.pow_add]; rw [Int.pow_add] at hzv; have e := Int.mul_ediv_add_emod (zs.getD (i + q) 0 + (limbs a).getD i 0 * (limbs b).getD q 0 + c) 1073741824
        clear hpast hzt hzz hqc bm by' bz hz
        simp only [BB] at *; generalize (zs.getD (i + q) 0 + (limbs a).getD i 0 * (limbs b).getD q 0 + c) / 1073741824 = Q at *; generalize (zs.getD (i + q) 0 + (limbs a).getD i 0 * (limbs b).getD q 0 + c) % 1073741824 = M at *; generalize (1073741824 : Int) ^ i = I at *; generalize (1073741824 : Int) ^ q = J at *; generalize zs.getD (i + q) 0 = z at *; generalize (limbs a).getD i 0 = x at *; generalize (limbs b).getD q 0 = y at *; generalize pre (limbs b) q = pb at *; generalize val zs = vz at *; generalize val out = vo at *
        grind
    have fin : ¬ ((q : Int) < (limbs b).length) → ¬ (0 < c) → (i + 1 ≤ (limbs a).length ∧ zs.length = (limbs a).length + (limbs b).length ∧ OKL zs ∧ (∀ j, i + 1 + (limbs b).length ≤ j → zs.getD j 0 = 0) ∧ val zs = pre (limbs a) (i + 1) * b) := by
      intro g1 g2; refine ⟨by omega, hzl, hzok, fun j hj => hzz j (by omega), ?_⟩
      have hc : c = 0 := by omega
      rw [hc, Int.zero_mul, Int.add_zero, Yx (xs := limbs b) (by omega), ZW, hv] at hzv; rw [hzv, Zj]; grind
    refine Qw (Qw (Qx fun K hK => ?_)); refine Qq Y Y Y (Qq Y Y Y (Qd Y Y sNat.und (List.length_map ..) Y (Qk ilss Y Y Y Y (Qq Y Y Y (Q5 26 Y (fun g1 => ?_) (fun g1 => ?_))))))
    · have st := step (by omega); clear step fin; refine Qy Y Y Y (Qy Y Y Y (QZ Y Y Y Y (Qj (hK _ _ (Qz (Qo Y (Q1 (Qz (Qw (Q4 (Qw ?_))))))))))); clear hK K; refine Xu mixed 18 (.p 0 (.p 1 (.p 2 (.p 3 (.p 4 (.p 6 (.p 7 (.p 8 (.p 10 (.p 11 (.p 15 (.f 5 (.f 9 (.m 12 (.p 13 (.p 14 (.p 16 (.p 17 .done)))))))))))))))))) (by kernel_rfl) (fun K hK => ?_); refine Qq Y Y Y (Qq Y Y Y (Qq Y Y Y (Qk (iadd (by omega) (by omega)) Y Y Y Y ?_)))
      refine Xi ((limbs a).length + (limbs b).length) Y Y Y (by simp [ints]; omega) Y sNat (by omega) (by omega) Y ?_
      rw [eiq]; refine Qq Y Y Y (Qq Y Y Y (Qg Y Y Y sNat (by omega) (X5 (by omega) (by omega)) Y ?_)); refine Qq Y Y Y (Qq Y Y Y (Qq Y Y Y ?_)); rw [eix]
      refine QJ Y Y Y Y (ints_get (by omega)) lInt Y ?_
      refine Xy Y Y Y lInt Y (QW gorlimb (YJ (limbs b) q) Y Y Y Y (Qk (imul (by omega) (by omega)) Y Y Y Y ?_))
      refine Qk (iadd (by omega) (by omega)) Y Y Y Y ?_
      refine Qk (iadd (by omega) (by omega)) Y Y Y Y ?_
      refine Qv Y Y Y (Qj (hK _ _ (Qz (Qw ?_)))); clear hK K; refine Qx (fun K hK => ?_); refine Qq Y Y Y (Qq Y Y Y (Qq Y Y Y (Qk (iadd (by omega) (by omega)) Y Y Y Y ?_))); refine Qq Y Y Y (Qk (irem (by omega) (by omega)) Y Y Y Y ?_)
      refine Xi ((limbs a).length + (limbs b).length) Y Y Y (by simp [ints]; omega) Y sNat (by omega) (by omega) Y ?_
      rw [eiq]
      refine Xh Y Y Y Y Y zInt (by simp [Ent.cs, ints]; omega) ?_
      simp only [Ent.setc, ints_set]; refine Qj (hK _ _ (Qz ?_)); clear hK K; refine Qx (fun K hK => ?_); refine Qq Y Y Y (Qk (iquo (by omega) (by omega) (by omega)) Y Y Y Y ?_); refine Qv Y Y Y (Qj (hK _ _ (Qz ?_))); clear hK K; refine Qx (fun K hK => ?_); refine Qq Y Y Y (Qk (iadd (by omega) (by omega)) Y Y Y Y ?_); refine Qv Y Y Y (Qj (hK _ _ (Q3 ?_))); clear hK K; refine Q7 (q + 1, zs.set (i + q) ((zs.getD (i + q) 0 + (limbs a).getD i 0 * (limbs b).getD q 0 + c) % 1073741824), (zs.getD (i + q) 0 + (limbs a).getD i 0 * (limbs b).getD q 0 + c) / 1073741824) st.1 st.2 (by exact Qu Y ⟨rfl, rfl, rfl, rfl, rfl, by simp only [Int.natCast_add]; rfl, trivial⟩)
    · refine Qq Y Y Y (Qk igtr Y Y Y Y (QK Y Y Y Y (Qj (hK _ _ (Qz ?_))))); clear hK K; refine Q2 Y (fun g2 => ?_) (fun g2 => ?_)
      · have st := step (by omega); clear step fin; refine Q1 (Qz (Qw (Q4 (Qw ?_)))); refine Xu mixed 18 (.p 0 (.p 1 (.p 2 (.p 3 (.p 4 (.p 6 (.p 7 (.p 8 (.p 10 (.p 11 (.p 15 (.f 5 (.f 9 (.m 12 (.p 13 (.p 14 (.p 16 (.p 17 .done)))))))))))))))))) (by kernel_rfl) (fun K hK => ?_); refine Qq Y Y Y (Qq Y Y Y (Qq Y Y Y (Qk (iadd (by omega) (by omega)) Y Y Y Y ?_)))
        refine Xi ((limbs a).length + (limbs b).length) Y Y Y (by simp [ints]; omega) Y sNat (by omega) (by omega) Y ?_
        rw [eiq]; refine Qq Y Y Y (Qq Y Y Y (Qg Y Y Y sNat (by omega) (X5 (by omega) (by omega)) Y ?_)); refine Qq Y Y Y (Qq Y Y Y (Qq Y Y Y ?_)); rw [eix]
        refine QJ Y Y Y Y (ints_get (by omega)) lInt Y ?_
        refine Xy Y Y Y lInt Y (QW gorlimb (YJ (limbs b) q) Y Y Y Y (Qk (imul (by omega) (by omega)) Y Y Y Y ?_))
        refine Qk (iadd (by omega) (by omega)) Y Y Y Y ?_
        refine Qk (iadd (by omega) (by omega)) Y Y Y Y ?_
        refine Qv Y Y Y (Qj (hK _ _ (Qz (Qw ?_)))); clear hK K; refine Qx (fun K hK => ?_); refine Qq Y Y Y (Qq Y Y Y (Qq Y Y Y (Qk (iadd (by omega) (by omega)) Y Y Y Y ?_))); refine Qq Y Y Y (Qk (irem (by omega) (by omega)) Y Y Y Y ?_)
        refine Xi ((limbs a).length + (limbs b).length) Y Y Y (by simp [ints]; omega) Y sNat (by omega) (by omega) Y ?_
        rw [eiq]
        refine Xh Y Y Y Y Y zInt (by simp [Ent.cs, ints]; omega) ?_
        simp only [Ent.setc, ints_set]; refine Qj (hK _ _ (Qz ?_)); clear hK K; refine Qx (fun K hK => ?_); refine Qq Y Y Y (Qk (iquo (by omega) (by omega) (by omega)) Y Y Y Y ?_); refine Qv Y Y Y (Qj (hK _ _ (Qz ?_))); clear hK K; refine Qx (fun K hK => ?_); refine Qq Y Y Y (Qk (iadd (by omega) (by omega)) Y Y Y Y ?_); refine Qv Y Y Y (Qj (hK _ _ (Q3 ?_))); clear hK K; refine Q7 (q + 1, zs.set (i + q) ((zs.getD (i + q) 0 + (limbs a).getD i 0 * (limbs b).getD q 0 + c) % 1073741824), (zs.getD (i + q) 0 + (limbs a).getD i 0 * (limbs b).getD q 0 + c) / 1073741824) st.1 st.2 (by exact Qu Y ⟨rfl, rfl, rfl, rfl, rfl, by simp only [Int.natCast_add]; rfl, trivial⟩)
      · have fe := fin g1 g2; clear step fin; refine Qn (Qz (Qx fun K hK => ?_)); refine Qq Y Y Y (Qk (iadd (by omega) (by omega)) Y Y Y Y ?_); refine Qv Y Y Y (Qj (hK _ _ (Q3 ?_))); clear hK K; refine Q7 (i + 1, zs) (by dsimp only; omega) fe (by exact Qu Y ⟨rfl, rfl, rfl, by simp only [Int.natCast_add]; rfl, trivial⟩)
  · have hi' : i = (limbs a).length := by omega
    have e4 : trimL out = limbs (a * b) := by
      rw [Z3 hok, hv, hi', Yx (Nat.le_refl _), ZW]
      congr 1
    refine Yq 0 _ Y (Zk _ _) X7 (Qn (Qz (Qw (Qx fun K hK => ?_)))); refine Qq Y Y Y (QW gorTrim (rTrim_ok out (by omega)) Y Y Y Y ?_); rw [e4]; refine Qv Y Y Y (Qj (hK _ _ (Qz (Q0 ?_)))); clear hK K; refine QU [_] rfl (QQ Y QX) Y Y
theorem gorTimes : InGo Tryz.prog 135 := InGo.of Tryz.func135 (by kernel_rfl) (by kernel_rfl)
theorem uU64 : Tryz.prog.underlying 153 = some (.int .u64) := Tryz.underlying153
theorem uI64 : Tryz.prog.underlying 3 = some (.int .i64) := Tryz.underlying3
abbrev wordC (x : Int) : CT := .ex (.int .u64 x)
set_option maxHeartbeats 2000000 in
theorem rWord_ok (n : Nat) (hn : n < 18446744073709551616) : Ok Tryz.prog 99 [wordC n] (natC n) := by
  refine Ok.enter Tryz.func99 J _ Tryz.ntmps99 J ?_
  intro S w; refine Qw (Qx fun K hK => ?_); refine Qv J J J (Qj (hK _ _ (Qz (Qw ?_)))); clear hK K; refine Qx (fun K hK => ?_); refine Qv J J J (Qj (hK _ _ (Qz (Qw (Q4 ?_))))); clear hK K
  refine Xf 3 0 3 1 J J J ?_
  skip
  refine Xz (α := Nat × List Int) (fun s => s.1 ≤ n ∧ limbs n = s.2 ++ limbs s.1)
    (fun s => [(0, .ct (wordC s.1)), (3, .own 0)]) (fun s => [(0, .row 3 1 (ints s.2))]) (fun s => s.1) (n, []) ⟨Nat.le_refl _, rfl⟩ (by exact Qu J ⟨rfl, rfl, trivial⟩) ?_
  rintro ⟨m, zs⟩ ⟨hm, hv⟩
  dsimp only at hm hv ⊢
  have hl : zs.length ≤ 64 := by
    have h1 := congrArg List.length hv; have h2 := XJ (n := n) (k := 3) (by omega); simp at h1; omega
  refine Qw (Qw (Qx fun K hK => ?_)); refine Qq J J J (Qk igtr J J J J (Qj (hK _ _ (Qz ?_)))); clear hK K; refine Q2 J (fun h => ?_) (fun h => ?_)
  · refine Q1 (Qz (Qw (Q4 (Qx fun K hK => ?_)))); refine Qq J J J (Qq J J J (Qk (urem (by omega) (by omega)) J J J J ?_))
    refine Zg J J uU64 uI64 (Yk (by omega) (by omega)) J ?_
    refine Xp J J sNat J J J (Qs zs.length (ints (zs ++ [(m : Int) % 1073741824])) J J J J sNat (by simp [ints]) J (by omega) (by omega) (by simp [ints]) J ?_); refine Qv J J J (Qj (hK _ _ (Qz ?_))); clear hK K; refine Qx (fun K hK => ?_); refine Qq J J J (Qk (uquo (by omega) (by omega) (by omega)) J J J J ?_); refine Qv J J J (Qj (hK _ _ (Q3 ?_))); clear hK K
    refine Q7 (m / 1073741824, zs ++ [(m : Int) % 1073741824]) (by dsimp only; omega) ⟨by dsimp only; omega, ?_⟩ ?_
    all_goals dsimp only
    · rw [hv, limbs_pos (n := m) (by omega)]; simp
    · exact Qu J ⟨by rw [Int.natCast_ediv]; rfl, rfl, trivial⟩
  · have : m = 0 := by omega
    subst this; rw [limbs_zero, List.append_nil] at hv; subst hv; refine Yq 0 _ J (Zk _ _) X7 (Qn (Qz (Qw (Qx fun K hK => ?_)))); refine Qq J J J (Qv J J J (Qj (hK _ _ (Qz (Q0 ?_))))); clear hK K; refine QU [_] rfl (QQ J QX) J J
theorem gorWord : InGo Tryz.prog 99 := InGo.of Tryz.func99 (by kernel_rfl) (by kernel_rfl)
theorem cmpI_le {a b : Int} : cmpI a b ≤ 0 ↔ a ≤ b := by unfold cmpI; split <;> (try split) <;> omega
theorem rTimes_one (b m : Nat) (h0 : 0 < m) (h1 : m < 1073741824) (hl : (limbs b).length ≤ 100000) : Ok Tryz.prog 135 [natC b, .fr (sliceT 1 [[intC m]])] (natC (b * m)) := by
  have h := rTimes_ok b m (by rw [ZU h0 h1]; simp; omega)
  have e : natC m = .fr (sliceT 1 [[intC m]]) := by show intsC (limbs m) = _; rw [ZU h0 h1]; rfl
  rw [← e]; exact h
theorem split_step {v b r R A p x P d : Int} (K : Int) (hR : R = r * K + x) (hv : v * b + r * (P * K) = A - (p + x * P)) : (v + d * P) * b + (R - b * d) * P = A - p := by
  subst hR; grind
theorem len_lt_mul {R b k : Nat} (h : (limbs b).length ≤ k) (hR : R < b * 1073741824) : (limbs R).length ≤ k + 1 := by
  refine XJ ?_
  rw [Nat.pow_succ]; exact Nat.lt_trans hR (Nat.mul_lt_mul_of_pos_right (Xd h) (by decide))
set_option maxHeartbeats 4000000 in
theorem rSplit_ok (a b : Nat) (hb : 0 < b) (la : (limbs a).length ≤ 10000) (lb : (limbs b).length ≤ 10000) : Ok Tryz.prog 98 [natC a, natC b] (.fr (tupT [natC (a / b), natC (a % b)])) := by
  refine Ok.enter Tryz.func98 J _ Tryz.ntmps98 J ?_
  intro S w; refine Qw (Qx fun K hK => ?_); refine Qv J J J (Qv J J J (Qj (hK _ _ (Qz (Qw ?_))))); clear hK K; refine Qx (fun K hK => ?_); refine Qq J J J (Qd J J sNat.und (List.length_map ..) J (Ops.make 0 (limbs a).length J J J J sNat (by omega) (by omega) J J J ?_)); rw [ints_made]; refine Qv J J J (Qj (hK _ _ (Qz (Qw ?_)))); clear hK K; refine Qx (fun K hK => ?_); refine Qv J J J (Qj (hK _ _ (Qz (Qw (Qw ?_))))); clear hK K; refine Qx (fun K hK => ?_); refine Qq J J J (Qd J J sNat.und (List.length_map ..) J (Qk (isub (by omega) (by omega)) J J J J ?_)); refine Qv J J J (Qj (hK _ _ (Qz (Q4 ?_)))); clear hK K
  refine St.asNil 7 1 J ?_
  refine Xz (α := Nat × List Int × Nat) (fun s => s.1 ≤ (limbs a).length ∧ s.2.1.length = (limbs a).length ∧ OKL s.2.1 ∧ (∀ j, j < s.1 → s.2.1.getD j 0 = 0) ∧ s.2.2 < b ∧ val s.2.1 * b + s.2.2 * BB ^ s.1 = val (limbs a) - pre (limbs a) s.1)
    (fun s => [(0, .ct (natC a)), (1, .ct (natC b)), (6, .own 0), (7, .ct (natC s.2.2)), (8, .ct (intC ((s.1 : Int) - 1)))])
    (fun s => [(0, .row 3 1 (ints s.2.1))]) (fun s => s.1) ((limbs a).length, List.replicate (limbs a).length 0, 0) ⟨Nat.le_refl _, by simp, OKL.zeros _, ?_, hb, ?_⟩ (by exact Qu J ⟨rfl, rfl, rfl, by rw [natC_zero]; rfl, rfl, trivial⟩) ?_
  · intro j _; simp [List.getD_eq_getElem?_getD, List.getElem?_replicate]; split <;> rfl
  · dsimp only; rw [val_zeros, Yx (Nat.le_refl _)]; simp
  rintro ⟨q, zs, rr⟩ ⟨hq, hzl, hok, hz, hrb, hv⟩
  dsimp only at hq hzl hok hz hrb hv ⊢; refine Qw (Qw (Qx fun K hK => ?_)); refine Qq J J J (Qk igeq J J J J (Qj (hK _ _ (Qz ?_)))); clear hK K; refine Q2 J (fun h => ?_) (fun h => ?_)
  · obtain ⟨i, rfl⟩ : ∃ i, q = i + 1 := ⟨q - 1, by omega⟩
    have e1 : (((i + 1 : Nat) : Int) - 1) = (i : Int) := by omega
    have e2 : (i : Int).toNat = i := Int.toNat_natCast i
    have e3 : (i : Int).toNat * 1 = i := by omega
    have bx := (Xm a).get i; simp only [BB] at bx; obtain ⟨R, hR⟩ : ∃ R : Nat, (R : Int) = rr * 1073741824 + (limbs a).getD i 0 := ⟨((rr : Int) * 1073741824 + (limbs a).getD i 0).toNat, by omega⟩; have lrr : (limbs rr).length ≤ 10000 := Nat.le_trans (Xc (Nat.le_of_lt hrb)) lb
    have eT : trimL ((limbs a).getD i 0 :: limbs rr) = limbs R := by
      rw [Z3 (OKL.cons (by simp only [BB]; omega) (Xm rr))]; simp only [val]; rw [ZW]; congr 1; simp only [BB]; omega
    have hRb : R < b * 1073741824 := by
      have h1 : (rr + 1) * 1073741824 ≤ b * 1073741824 := Nat.mul_le_mul_right _ (by omega); omega
    have lR : (limbs R).length ≤ 10001 := len_lt_mul lb hRb; rw [Zj, Int.pow_succ] at hv; rw [e1]; refine Q1 (Qz (Qw (Q4 (Qw (Qx fun K hK => ?_))))); refine Qq J J J (Qq J J J (Qg J J J sNat (by omega) (X5 (by omega) (by omega)) J ?_))
    refine Xy J J J lInt J ?_
    rw [e2]; refine Ops.lit1E 1 J J sNat J J J J J (Qq J J J (Ops.append 1 (ints ((limbs a).getD i 0 :: limbs rr)) J J J J sNat J ?_ (by simp; omega) (by simp; omega) ?_ J ?_))
    · rw [flat_one]; exact ints_ones _
    · rw [flat_one]; rfl
    refine ZJ 1 _ J (Zk _ _) X7 (QW gorTrim (rTrim_ok _ (by simp; omega)) J J J J ?_); rw [eT]; refine Qv J J J (Qj (hK _ _ (Qz (Qw (Qw ?_))))); clear hK K; refine Qx (fun K hK => ?_); refine Qq J J J (Qq J J J (QW gorCompare (rCompare_ok R b (by omega) (by omega)) J J J J ?_)); refine Qk ilss J J J J (Qj (hK _ _ (Qz ?_))); clear hK K; refine Q2 J (fun h2 => ?_) (fun h2 => ?_)
    · rw [cmpI_neg] at h2; refine Qn (Qz (Qx fun K hK => ?_)); refine Qq J J J (Qk (isub (by omega) (by omega)) J J J J ?_); refine Qv J J J (Qj (hK _ _ (Q3 ?_))); clear hK K; refine Q7 (i, zs, R) (by dsimp only; omega) ⟨by dsimp only; omega, hzl, hok, fun j hj => hz j (by dsimp only at hj; omega), by dsimp only; omega, ?_⟩ (by exact Qu J ⟨rfl, rfl, rfl, rfl, rfl, trivial⟩); dsimp only; have := split_step (d := 0) BB hR hv
      simpa using this
    · rw [cmpI_neg] at h2; refine Q1 (Qz (Qw (Qx fun K hK => ?_))); refine Qv J J J (Qv J J J (Qj (hK _ _ (Qz (Qw (Q4 ?_)))))); clear hK K
      refine Xz (α := Nat × Nat) (fun s => 1 ≤ s.1 ∧ s.1 ≤ s.2 ∧ s.2 ≤ 1073741823 ∧ b * s.1 ≤ R ∧ R < b * (s.2 + 1))
        (fun s => [(0, .ct (natC a)), (1, .ct (natC b)), (6, .own 0), (7, .ct (natC R)), (8, .ct (intC i)), (9, .ct (intC s.1)), (10, .ct (intC s.2))])
        (fun _ => [(0, .row 3 1 (ints zs))]) (fun s => s.2 - s.1) (1, 1073741823) ⟨Nat.le_refl _, by decide, Nat.le_refl _, by omega, hRb⟩ (by exact Qu J ⟨rfl, rfl, rfl, rfl, rfl, rfl, rfl, trivial⟩) ?_
      rintro ⟨lo, hi⟩ ⟨k1, k2, k3, k4, k5⟩
      dsimp only at k1 k2 k3 k4 k5 ⊢; refine Qw (Qw (Qx fun K hK => ?_)); refine Qq J J J (Qq J J J (Qk ilss J J J J (Qj (hK _ _ (Qz ?_))))); clear hK K; refine Q2 J (fun h3 => ?_) (fun h3 => ?_)
      · obtain ⟨m, hm⟩ : ∃ m : Nat, m = (lo + hi + 1) / 2 := ⟨_, rfl⟩
        have em : ((lo : Int) + hi + 1) / 2 = (m : Int) := by omega
        have lbm : (limbs (b * m)).length ≤ 10001 := Nat.le_trans limbs_mul_len (by
          have := XJ (n := m) (k := 1) (by omega)
          omega)
        refine Q1 (Qz (Q4 (Qw (Qx fun K hK => ?_)))); refine Qq J J J (Qq J J J (Qk (iadd (by omega) (by omega)) J J J J ?_))
        refine Qk (iadd (by omega) (by omega)) J J J J ?_
        refine Qk (iquo (by omega) (by omega) (by omega)) J J J J ?_
        refine Qv J J J (Qj (hK _ _ (Qz (Qw ?_)))); clear hK K; refine Qx (fun K hK => ?_); refine Qq J J J (Qq J J J ?_); rw [em]; skip; refine Xp J J sNat J J J (QW gorTimes (rTimes_one b m (by omega) (by omega) (by omega)) J J J J ?_); refine Qq J J J (QW gorCompare (rCompare_ok (b * m) R (by omega) (by omega)) J J J J ?_); refine Qk ileq J J J J (Qj (hK _ _ (Qz ?_))); clear hK K; refine Q2 J (fun h4 => ?_) (fun h4 => ?_)
        · rw [cmpI_le] at h4; refine Qx (fun K hK => ?_); refine Qq J J J (Qv J J J (Qj (hK _ _ (Qb (Q3 ?_))))); clear hK K; refine Q7 (m, hi) (by dsimp only; omega) ⟨by dsimp only; omega, by dsimp only; omega, k3, by dsimp only; omega, k5⟩ (by exact Qu J ⟨rfl, rfl, rfl, rfl, rfl, rfl, rfl, trivial⟩)
        · rw [cmpI_le] at h4; refine Qx (fun K hK => ?_); refine Qq J J J (Qk (isub (by omega) (by omega)) J J J J ?_); refine Qv J J J (Qj (hK _ _ (Qb (Q3 ?_)))); clear hK K; refine Q7 (lo, m - 1) (by dsimp only; omega) ⟨k1, by dsimp only; omega, by dsimp only; omega, k4, ?_⟩ (by exact Qu J ⟨rfl, rfl, rfl, rfl, rfl, rfl, by rw [show ((m - 1 : Nat) : Int) = (m : Int) - 1 by omega]; rfl, trivial⟩); dsimp only; rw [show m - 1 + 1 = m by omega]; omega
      · have h6 : lo = hi := by omega
        subst h6
        have lbm : (limbs (b * lo)).length ≤ 10001 := Nat.le_trans limbs_mul_len (by
          have := XJ (n := lo) (k := 1) (by omega)
          omega)
        refine Qn (Qz (Qw (Qx fun K hK => ?_))); refine Qq J J J (Qq J J J (Qq J J J (Xi (limbs a).length J J J (by simp [ints]; omega) J sNat (by omega) (by omega) J ?_))); rw [e3]
        refine Xh J J J J J zInt (by simp [Ent.cs, ints]; omega) ?_
        simp only [Ent.setc, ints_set]; refine Qj (hK _ _ (Qz ?_)); clear hK K; refine Qx (fun K hK => ?_); refine Qq J J J (Qq J J J (Qq J J J (Xp J J sNat J J J (QW gorTimes (rTimes_one b lo (by omega) (by omega) (by omega)) J J J J ?_))))
        refine QW gorLess (rLess_ok R (b * lo) k4 (by omega)) J J J J ?_
        refine Qv J J J (Qj (hK _ _ (Qz ?_))); clear hK K; refine Qx (fun K hK => ?_); refine Qq J J J (Qk (isub (by omega) (by omega)) J J J J ?_); refine Qv J J J (Qj (hK _ _ (Q3 ?_))); clear hK K; refine Q7 (i, zs.set i (lo : Int), R - b * lo) (by dsimp only; omega) ⟨by dsimp only; omega, by simp [hzl], ?_, ?_, ?_, ?_⟩ (by exact Qu J ⟨rfl, rfl, rfl, rfl, rfl, trivial⟩)
        all_goals dsimp only
        · exact hok.set _ (by simp only [BB]; omega)
        · intro j hj; rw [getD_set (by omega), if_neg (by omega)]; exact hz j (by omega)
        · rw [Nat.mul_add] at k5; omega
        · rw [val_set (by omega), hz i (by omega), Int.sub_zero, show ((R - b * lo : Nat) : Int) = (R : Int) - b * lo by rw [Int.natCast_sub k4, Int.natCast_mul]]; exact split_step BB hR hv
  · have hq0 : q = 0 := by omega
    subst hq0
    have e4 : val zs * b + rr = a := by rw [Z8, ZW] at hv; simpa using hv
    have hvz := val_nonneg hok; obtain ⟨Q, hQ⟩ : ∃ Q : Nat, val zs = Q := ⟨(val zs).toNat, by omega⟩; rw [hQ] at e4
    have e4' : a = rr + Q * b := by
      have : ((Q * b + rr : Nat) : Int) = a := by rw [Int.natCast_add, Int.natCast_mul]; exact e4
      omega
    have e5 : a / b = Q ∧ a % b = rr := by
      rw [e4']; constructor
      · rw [Nat.add_mul_div_right _ _ hb, Nat.div_eq_of_lt hrb]; omega
      · rw [Nat.add_mul_mod_self_right, Nat.mod_eq_of_lt hrb]
    refine Yq 0 _ J (Zk _ _) X7 (Qn (Qz (Qw (Qx fun K hK => ?_)))); refine Qq J J J (QW gorTrim (rTrim_ok zs (by omega)) J J J J ?_); rw [Z3 hok, hQ, Int.toNat_natCast]; refine Qq J J J (Qv J J J (Qv J J J (Qj (hK _ _ (Qz (Q0 ?_)))))); clear hK K; refine QU [_, _] rfl (QQ J (QQ J QX)) (by rw [e5.1, e5.2]; rfl) J
theorem gorSplit : InGo Tryz.prog 98 := InGo.of Tryz.func98 (by kernel_rfl) (by kernel_rfl)
theorem limbs_get0 {x : Nat} (h : x ≠ 0) : (limbs x).getD 0 0 = ((x % 1073741824 : Nat) : Int) := by rw [limbs_pos h]; rfl
theorem gcd_half {x y : Nat} (hx : x % 2 = 0) (hy : y % 2 = 1) : Nat.gcd (x / 2) y = Nat.gcd x y := by
  have e : x = 2 * (x / 2) := by omega
  have hc : Nat.Coprime 2 y := by
    unfold Nat.Coprime; rw [Nat.gcd_rec, hy]; rfl
  conv => rhs; rw [e]
  exact (hc.gcd_mul_left_cancel _).symm
theorem gcd_two {x y : Nat} (hx : x % 2 = 0) (hy : y % 2 = 0) : 2 * Nat.gcd (x / 2) (y / 2) = Nat.gcd x y := by
  rw [← Nat.gcd_mul_left, show 2 * (x / 2) = x by omega, show 2 * (y / 2) = y by omega]
theorem gcd_less {x y : Nat} (h : y ≤ x) : Nat.gcd (x - y) y = Nat.gcd x y := by
  conv => rhs; rw [show x = (x - y) + y by omega]
  rw [Nat.gcd_add_self_left]
theorem len_add {x y k : Nat} (h1 : x < 1073741824 ^ k) (h2 : y < 1073741824 ^ k) : (limbs (x + y)).length ≤ k + 1 := by
  refine XJ ?_
  rw [Nat.pow_succ]; omega
set_option maxHeartbeats 8000000 in
theorem rGcd_ok (a b : Nat) (la : (limbs a).length ≤ 10000) (lb : (limbs b).length ≤ 10000) : Ok Tryz.prog 97 [natC a, natC b] (natC (Nat.gcd a b)) := by
  refine Ok.enter Tryz.func97 J _ Tryz.ntmps97 J ?_
  intro S w; refine Qw (Qx fun K hK => ?_); refine Qv J J J (Qj (hK _ _ (Qz (Qw (Qw ?_))))); clear hK K; refine Qx (fun K hK => ?_); refine Qq J J J (Qd J J sNat.und (List.length_map ..) J (Qk ieql J J J J (Qq J J J ?_)))
  have early : (limbs a).length = 0 ∨ (limbs b).length = 0 → natC (Nat.gcd a b) = natC (a + b) := by
    rintro (h | h)
    · have : a = 0 := Yz (List.eq_nil_of_length_eq_zero h); subst this; simp
    · have : b = 0 := Yz (List.eq_nil_of_length_eq_zero h); subst this; simp
  refine Q5 9 J (fun g1 => ?_) (fun g1 => ?_)
  · have ee := early (.inl (by omega)); refine Qy J J J (Qy J J J (Qy J J J (QZ J J J J (Qj (hK _ _ (Qz (Qo J (Qw ?_)))))))); clear hK K; refine Qx (fun K hK => ?_); refine Qq J J J (Qq J J J (QW gorPlus (rPlus_ok a b (by omega) (by omega)) J J J J ?_)); refine Qv J J J (Qj (hK _ _ (Qz (Q0 (QY ?_))))); clear hK K; refine QU [_] rfl (QQ J QX) (by rw [ee]; rfl) J
  · refine Qq J J J (Qd J J sNat.und (List.length_map ..) J (Qk ieql J J J J (QK J J J J (Qj (hK _ _ (Qz ?_)))))); clear hK K; refine Q2 J (fun g2 => ?_) (fun g2 => ?_)
    · have ee := early (.inr (by omega)); refine Qw (Qx fun K hK => ?_); refine Qq J J J (Qq J J J (QW gorPlus (rPlus_ok a b (by omega) (by omega)) J J J J ?_)); refine Qv J J J (Qj (hK _ _ (Qz (Q0 (QY ?_))))); clear hK K; refine QU [_] rfl (QQ J QX) (by rw [ee]; rfl) J
    · have ha0 : a ≠ 0 := limbs_len_pos.mp (by omega); have hb0 : b ≠ 0 := limbs_len_pos.mp (by omega); clear early
      have e11 : natC 1 = .fr (sliceT 1 [[intC 1]]) := by show intsC (limbs 1) = _; rw [ZU (by decide) (by decide)]; rfl
      have h00 : (0 : Int).toNat = 0 := rfl; refine Q1 (Qz (Qw (Qx fun K hK => ?_)))
      refine Xp J J sNat J J J ?_
      rw [← e11]; refine Qv J J J (Qj (hK _ _ (Qz (Qw (Q4 ?_))))); clear hK K
      refine Xz (α := Nat × Nat × Nat) (fun s => 0 < s.1 ∧ 0 < s.2.1 ∧ 0 < s.2.2 ∧ s.1 ≤ a ∧ s.2.1 ≤ b ∧ s.2.2 * s.1 ≤ a ∧ s.2.2 * Nat.gcd s.1 s.2.1 = Nat.gcd a b)
        (fun s => [(0, .ct (natC s.1)), (1, .ct (natC s.2.1)), (5, .ct (natC s.2.2))]) (fun _ => []) (fun s => s.1) (a, b, 1) ⟨by dsimp only; omega, by dsimp only; omega, Nat.one_pos, Nat.le_refl _, Nat.le_refl _, by dsimp only; omega, by dsimp only; omega⟩ (by exact Qu J ⟨rfl, rfl, rfl, trivial⟩) ?_
      rintro ⟨x, y, u⟩ ⟨hx, hy, hu, hxa, hyb, hua, hg⟩
      dsimp only at hx hy hu hxa hyb hua hg ⊢; have lx : (limbs x).length ≤ 10000 := Nat.le_trans (Xc hxa) la; have ly : (limbs y).length ≤ 10000 := Nat.le_trans (Xc hyb) lb; have lu : (limbs u).length ≤ 10000 := Nat.le_trans (Xc (Nat.le_trans (Nat.le_mul_of_pos_right u hx) hua)) la; have px := limbs_len_pos.mpr (show x ≠ 0 by omega); have py := limbs_len_pos.mpr (show y ≠ 0 by omega); have gx := limbs_get0 (show x ≠ 0 by omega); have gy := limbs_get0 (show y ≠ 0 by omega); refine Qw (Qw (Qx fun K hK => ?_)); refine Qq J J J (Qg J J J sNat (by omega) (X5 (by omega) (by omega)) J ?_)
      refine Xy J J J lInt J ?_
      rw [h00, gx]
      refine Qk (irem (by omega) (by omega)) J J J J ?_
      refine Qk ieql J J J J (Qq J J J (Q5 23 J (fun g3 => ?_) (fun g3 => ?_)))
      · refine Qq J J J (Qg J J J sNat (by omega) (X5 (by omega) (by omega)) J ?_)
        refine Xy J J J lInt J ?_
        rw [h00, gy]
        refine Qk (irem (by omega) (by omega)) J J J J ?_
        refine Qk ieql J J J J (QZ J J J J (Qj (hK _ _ (Qz ?_)))); clear hK K; refine Q2 J (fun g4 => ?_) (fun g4 => ?_)
        · refine Q1 (Qz (Q4 (Qx fun K hK => ?_))); refine Qq J J J (QW gorhalf (rhalf_ok x (by omega)) J J J J ?_); refine Qq J J J (QW gorhalf (rhalf_ok y (by omega)) J J J J ?_); refine Qq J J J (Qq J J J (QW gorPlus (rPlus_ok u u (by omega) (by omega)) J J J J ?_)); refine Qv J J J (Qv J J J (Qv J J J (Qj (hK _ _ (Qb (Q3 ?_)))))); clear hK K; have q1 := gcd_two (x := x) (y := y) (by omega) (by omega); refine Q7 (x / 2, y / 2, u + u) (by dsimp only; omega) ⟨by dsimp only; omega, by dsimp only; omega, by dsimp only; omega, by dsimp only; omega, by dsimp only; omega, ?_, ?_⟩ (by exact Qu J ⟨rfl, rfl, rfl, trivial⟩)
          · dsimp only; rw [← Nat.two_mul, Nat.mul_comm 2 u, Nat.mul_assoc, show 2 * (x / 2) = x by omega]; exact hua
          · dsimp only; rw [← Nat.two_mul, Nat.mul_comm 2 u, Nat.mul_assoc, q1]; exact hg
        · have hodd : x % 2 = 1 ∨ y % 2 = 1 := by omega
          clear g3 g4 gx gy; refine Qn (Qz (Qw (Q4 ?_)))
          refine Xz (α := Nat × Nat) (fun s => s.1 ≤ a ∧ s.2 ≤ b ∧ (s.1 % 2 = 1 ∨ s.2 % 2 = 1) ∧ u * Nat.gcd s.1 s.2 = Nat.gcd a b)
            (fun s => [(0, .ct (natC s.1)), (1, .ct (natC s.2)), (5, .ct (natC u))]) (fun _ => []) (fun s => s.1 + s.2) (x, y) ⟨hxa, hyb, hodd, hg⟩ (by exact Qu J ⟨rfl, rfl, rfl, trivial⟩) ?_
          clear hodd hg hxa hyb hua px py lx ly hx hy
          rintro ⟨p, q⟩ ⟨hpa, hqb, hodd, hg⟩
          dsimp only at hpa hqb hodd hg ⊢; have lp : (limbs p).length ≤ 10000 := Nat.le_trans (Xc hpa) la; have lq : (limbs q).length ≤ 10000 := Nat.le_trans (Xc hqb) lb
          have done : p = 0 ∨ q = 0 → natC (Nat.gcd a b) = natC (u * (p + q)) := by
            rintro (h | h)
            · subst h; rw [← hg]; simp
            · subst h; rw [← hg]; simp
          have lpq : (limbs (p + q)).length ≤ 10001 := by
            have h1 := Xd lp; have h2 := Xd lq; exact len_add h1 h2
          refine Qw (Qw (Qx fun K hK => ?_)); refine Qq J J J (Qd J J sNat.und (List.length_map ..) J (Qk igtr J J J J (Qq J J J (Q5 40 J (fun g5 => ?_) (fun g5 => ?_)))))
          · refine Qq J J J (Qd J J sNat.und (List.length_map ..) J (Qk igtr J J J J (QZ J J J J (Qj (hK _ _ (Qz ?_)))))); clear hK K; refine Q2 J (fun g6 => ?_) (fun g6 => ?_)
            · have hp0 : p ≠ 0 := limbs_len_pos.mp (by omega); have hq0 : q ≠ 0 := limbs_len_pos.mp (by omega); have gp := limbs_get0 hp0; have gq := limbs_get0 hq0; clear done; refine Q1 (Qz (Q4 (Q4 (Qw (Qx fun K hK => ?_))))); refine Qq J J J (Qg J J J sNat (by omega) (X5 (by omega) (by omega)) J ?_)
              refine Xy J J J lInt J ?_
              rw [h00, gp]
              refine Qk (irem (by omega) (by omega)) J J J J ?_
              refine Qk ieql J J J J (Qv J J J (Qj (hK _ _ (Qz ?_)))); clear hK K; refine Q2 J (fun g7 => ?_) (fun g7 => ?_)
              · have q1 := gcd_half (x := p) (y := q) (by omega) (by omega); refine Qx (fun K hK => ?_); refine Qq J J J (QW gorhalf (rhalf_ok p (by omega)) J J J J ?_); refine Qv J J J (Qj (hK _ _ (Qb (Qb (Q3 ?_))))); clear hK K; refine Q7 (p / 2, q) (by dsimp only; omega) ⟨by dsimp only; omega, hqb, by dsimp only; omega, by dsimp only; rw [q1]; exact hg⟩ (by exact Qu J ⟨rfl, rfl, rfl, trivial⟩)
              · refine Qw (Qx fun K hK => ?_); refine Qq J J J (Qg J J J sNat (by omega) (X5 (by omega) (by omega)) J ?_)
                refine Xy J J J lInt J ?_
                rw [h00, gq]
                refine Qk (irem (by omega) (by omega)) J J J J ?_
                refine Qk ieql J J J J (Qv J J J (Qj (hK _ _ (Qz ?_)))); clear hK K; refine Q2 J (fun g8 => ?_) (fun g8 => ?_)
                · have q1 := gcd_half (x := q) (y := p) (by omega) (by omega); refine Qx (fun K hK => ?_); refine Qq J J J (QW gorhalf (rhalf_ok q (by omega)) J J J J ?_); refine Qv J J J (Qj (hK _ _ (Qb (Qb (Q3 ?_))))); clear hK K; refine Q7 (p, q / 2) (by dsimp only; omega) ⟨hpa, by dsimp only; omega, by dsimp only; omega, by dsimp only; rw [Nat.gcd_comm, q1, Nat.gcd_comm]; exact hg⟩ (by exact Qu J ⟨rfl, rfl, rfl, trivial⟩)
                · refine Qw (Qx fun K hK => ?_); refine Qq J J J (Qq J J J (QW gorCompare (rCompare_ok p q (by omega) (by omega)) J J J J ?_)); refine Qk igeq J J J J (Qv J J J (Qj (hK _ _ (Qz ?_)))); clear hK K; refine Q2 J (fun g9 => ?_) (fun g9 => ?_)
                  · have hle : q ≤ p := by have := cmpI_neg (a := p) (b := q); omega
                    have q1 := gcd_less hle; refine Qx (fun K hK => ?_); refine Qq J J J (Qq J J J (QW gorLess (rLess_ok p q hle (by omega)) J J J J ?_)); refine Qv J J J (Qj (hK _ _ (Qb (Qb (Q3 ?_))))); clear hK K; refine Q7 (p - q, q) (by dsimp only; omega) ⟨by dsimp only; omega, hqb, by dsimp only; omega, by dsimp only; rw [q1]; exact hg⟩ (by exact Qu J ⟨rfl, rfl, rfl, trivial⟩)
                  · have hle : p ≤ q := by have := cmpI_neg (a := p) (b := q); omega
                    have q1 := gcd_less hle; refine Qx (fun K hK => ?_); refine Qq J J J (Qq J J J (QW gorLess (rLess_ok q p hle (by omega)) J J J J ?_)); refine Qv J J J (Qj (hK _ _ (Qb (Qb (Q3 ?_))))); clear hK K; refine Q7 (p, q - p) (by dsimp only; omega) ⟨hpa, by dsimp only; omega, by dsimp only; omega, by dsimp only; rw [Nat.gcd_comm, q1, Nat.gcd_comm]; exact hg⟩ (by exact Qu J ⟨rfl, rfl, rfl, trivial⟩)
            · have hd := done (.inr (Yz (List.eq_nil_of_length_eq_zero (by omega)))); refine Qn (Qz (Qw (Qx fun K hK => ?_))); refine Qq J J J (Qq J J J (Qq J J J (QW gorPlus (rPlus_ok p q (by omega) (by omega)) J J J J ?_)))
              refine QW gorTimes (rTimes_ok u (p + q) (by omega)) J J J J ?_
              refine Qv J J J (Qj (hK _ _ (Qz (Q0 ?_)))); clear hK K; refine QU [_] rfl (QQ J QX) (by rw [hd]; rfl) J
          · have hd := done (.inl (Yz (List.eq_nil_of_length_eq_zero (by omega)))); refine Qy J J J (Qy J J J (Qy J J J (QK J J J J (Qj (hK _ _ (Qz (Xx J (Qn (Qz (Qw ?_)))))))))); clear hK K; refine Qx (fun K hK => ?_); refine Qq J J J (Qq J J J (Qq J J J (QW gorPlus (rPlus_ok p q (by omega) (by omega)) J J J J ?_)))
            refine QW gorTimes (rTimes_ok u (p + q) (by omega)) J J J J ?_
            refine Qv J J J (Qj (hK _ _ (Qz (Q0 ?_)))); clear hK K; refine QU [_] rfl (QQ J QX) (by rw [hd]; rfl) J
      · have hodd : x % 2 = 1 ∨ y % 2 = 1 := by omega
        clear g3 gx gy; refine Qy J J J (Qy J J J (Qy J J J (Qy J J J (Qy J J J (QK J J J J (Qj (hK _ _ (Qz (Xx J (Qn (Qz (Qw (Q4 ?_))))))))))))); clear hK K
        refine Xz (α := Nat × Nat) (fun s => s.1 ≤ a ∧ s.2 ≤ b ∧ (s.1 % 2 = 1 ∨ s.2 % 2 = 1) ∧ u * Nat.gcd s.1 s.2 = Nat.gcd a b)
          (fun s => [(0, .ct (natC s.1)), (1, .ct (natC s.2)), (5, .ct (natC u))]) (fun _ => []) (fun s => s.1 + s.2) (x, y) ⟨hxa, hyb, hodd, hg⟩ (by exact Qu J ⟨rfl, rfl, rfl, trivial⟩) ?_
        clear hodd hg hxa hyb hua px py lx ly hx hy
        rintro ⟨p, q⟩ ⟨hpa, hqb, hodd, hg⟩
        dsimp only at hpa hqb hodd hg ⊢; have lp : (limbs p).length ≤ 10000 := Nat.le_trans (Xc hpa) la; have lq : (limbs q).length ≤ 10000 := Nat.le_trans (Xc hqb) lb
        have done : p = 0 ∨ q = 0 → natC (Nat.gcd a b) = natC (u * (p + q)) := by
          rintro (h | h)
          · subst h; rw [← hg]; simp
          · subst h; rw [← hg]; simp
        have lpq : (limbs (p + q)).length ≤ 10001 := by
          have h1 := Xd lp; have h2 := Xd lq; exact len_add h1 h2
        refine Qw (Qw (Qx fun K hK => ?_)); refine Qq J J J (Qd J J sNat.und (List.length_map ..) J (Qk igtr J J J J (Qq J J J (Q5 40 J (fun g5 => ?_) (fun g5 => ?_)))))
        · refine Qq J J J (Qd J J sNat.und (List.length_map ..) J (Qk igtr J J J J (QZ J J J J (Qj (hK _ _ (Qz ?_)))))); clear hK K; refine Q2 J (fun g6 => ?_) (fun g6 => ?_)
          · have hp0 : p ≠ 0 := limbs_len_pos.mp (by omega); have hq0 : q ≠ 0 := limbs_len_pos.mp (by omega); have gp := limbs_get0 hp0; have gq := limbs_get0 hq0; clear done; refine Q1 (Qz (Q4 (Q4 (Qw (Qx fun K hK => ?_))))); refine Qq J J J (Qg J J J sNat (by omega) (X5 (by omega) (by omega)) J ?_)
            refine Xy J J J lInt J ?_
            rw [h00, gp]
            refine Qk (irem (by omega) (by omega)) J J J J ?_
            refine Qk ieql J J J J (Qv J J J (Qj (hK _ _ (Qz ?_)))); clear hK K; refine Q2 J (fun g7 => ?_) (fun g7 => ?_)
            · have q1 := gcd_half (x := p) (y := q) (by omega) (by omega); refine Qx (fun K hK => ?_); refine Qq J J J (QW gorhalf (rhalf_ok p (by omega)) J J J J ?_); refine Qv J J J (Qj (hK _ _ (Qb (Qb (Q3 ?_))))); clear hK K; refine Q7 (p / 2, q) (by dsimp only; omega) ⟨by dsimp only; omega, hqb, by dsimp only; omega, by dsimp only; rw [q1]; exact hg⟩ (by exact Qu J ⟨rfl, rfl, rfl, trivial⟩)
            · refine Qw (Qx fun K hK => ?_); refine Qq J J J (Qg J J J sNat (by omega) (X5 (by omega) (by omega)) J ?_)
              refine Xy J J J lInt J ?_
              rw [h00, gq]
              refine Qk (irem (by omega) (by omega)) J J J J ?_
              refine Qk ieql J J J J (Qv J J J (Qj (hK _ _ (Qz ?_)))); clear hK K; refine Q2 J (fun g8 => ?_) (fun g8 => ?_)
              · have q1 := gcd_half (x := q) (y := p) (by omega) (by omega); refine Qx (fun K hK => ?_); refine Qq J J J (QW gorhalf (rhalf_ok q (by omega)) J J J J ?_); refine Qv J J J (Qj (hK _ _ (Qb (Qb (Q3 ?_))))); clear hK K; refine Q7 (p, q / 2) (by dsimp only; omega) ⟨hpa, by dsimp only; omega, by dsimp only; omega, by dsimp only; rw [Nat.gcd_comm, q1, Nat.gcd_comm]; exact hg⟩ (by exact Qu J ⟨rfl, rfl, rfl, trivial⟩)
              · refine Qw (Qx fun K hK => ?_); refine Qq J J J (Qq J J J (QW gorCompare (rCompare_ok p q (by omega) (by omega)) J J J J ?_)); refine Qk igeq J J J J (Qv J J J (Qj (hK _ _ (Qz ?_)))); clear hK K; refine Q2 J (fun g9 => ?_) (fun g9 => ?_)
                · have hle : q ≤ p := by have := cmpI_neg (a := p) (b := q); omega
                  have q1 := gcd_less hle; refine Qx (fun K hK => ?_); refine Qq J J J (Qq J J J (QW gorLess (rLess_ok p q hle (by omega)) J J J J ?_)); refine Qv J J J (Qj (hK _ _ (Qb (Qb (Q3 ?_))))); clear hK K; refine Q7 (p - q, q) (by dsimp only; omega) ⟨by dsimp only; omega, hqb, by dsimp only; omega, by dsimp only; rw [q1]; exact hg⟩ (by exact Qu J ⟨rfl, rfl, rfl, trivial⟩)
                · have hle : p ≤ q := by have := cmpI_neg (a := p) (b := q); omega
                  have q1 := gcd_less hle; refine Qx (fun K hK => ?_); refine Qq J J J (Qq J J J (QW gorLess (rLess_ok q p hle (by omega)) J J J J ?_)); refine Qv J J J (Qj (hK _ _ (Qb (Qb (Q3 ?_))))); clear hK K; refine Q7 (p, q - p) (by dsimp only; omega) ⟨hpa, by dsimp only; omega, by dsimp only; omega, by dsimp only; rw [Nat.gcd_comm, q1, Nat.gcd_comm]; exact hg⟩ (by exact Qu J ⟨rfl, rfl, rfl, trivial⟩)
          · have hd := done (.inr (Yz (List.eq_nil_of_length_eq_zero (by omega)))); refine Qn (Qz (Qw (Qx fun K hK => ?_))); refine Qq J J J (Qq J J J (Qq J J J (QW gorPlus (rPlus_ok p q (by omega) (by omega)) J J J J ?_)))
            refine QW gorTimes (rTimes_ok u (p + q) (by omega)) J J J J ?_
            refine Qv J J J (Qj (hK _ _ (Qz (Q0 ?_)))); clear hK K; refine QU [_] rfl (QQ J QX) (by rw [hd]; rfl) J
        · have hd := done (.inl (Yz (List.eq_nil_of_length_eq_zero (by omega)))); refine Qy J J J (Qy J J J (Qy J J J (QK J J J J (Qj (hK _ _ (Qz (Xx J (Qn (Qz (Qw ?_)))))))))); clear hK K; refine Qx (fun K hK => ?_); refine Qq J J J (Qq J J J (Qq J J J (QW gorPlus (rPlus_ok p q (by omega) (by omega)) J J J J ?_)))
          refine QW gorTimes (rTimes_ok u (p + q) (by omega)) J J J J ?_
          refine Qv J J J (Qj (hK _ _ (Qz (Q0 ?_)))); clear hK K; refine QU [_] rfl (QQ J QX) (by rw [hd]; rfl) J
theorem gorGcd : InGo Tryz.prog 97 := InGo.of Tryz.func97 (by kernel_rfl) (by kernel_rfl)
theorem rmagnitude_ok (n : Int) (h1 : -9223372036854775808 ≤ n) (h2 : n ≤ 9223372036854775807) : Ok Tryz.prog 53 [intC n] (natC n.natAbs) := by
  refine Ok.enter Tryz.func53 rfl _ Tryz.ntmps53 rfl ?_
  intro S w
  (refine Qw (Qx fun K hK => ?_); refine Qv rfl rfl rfl ?_; refine Qj (hK _ _ (Qz (Qw (Qw ?_)))); clear hK K; refine Qx (fun K hK => ?_); refine Qq rfl rfl rfl ?_; refine Qk ilss rfl rfl rfl rfl ?_; refine Qj (hK _ _ (Qz ?_)); clear hK K)
  refine Q2 rfl (fun h => ?_) (fun h => ?_)
  · (refine Qw (Qx fun K hK => ?_); refine Qq rfl rfl rfl ?_; refine Qk (iadd (by omega) (by omega)) rfl rfl rfl rfl ?_)
    refine Ops.ineg rfl rfl (by omega) (by omega) rfl ?_
    refine Zg rfl rfl (by with_reducible exact uI64) (by with_reducible exact uU64) (wrap_u (by omega) (by omega)) rfl ?_
    refine Qk (uadd (by omega) (by omega)) rfl rfl rfl rfl ?_
    rw [show -(n + 1) + 1 = (n.natAbs : Int) by omega]
    refine QW gorWord (rWord_ok n.natAbs (by omega)) rfl rfl rfl rfl ?_
    (refine Qv rfl rfl rfl ?_; refine Qj (hK _ _ (Qz (Q0 (QY ?_)))); clear hK K)
    refine QU [_] rfl (QQ rfl QX) rfl rfl
  · (refine Q1 (Qz (Qw (Qx fun K hK => ?_))); refine Qq rfl rfl rfl ?_)
    refine Zg rfl rfl (by with_reducible exact uI64) (by with_reducible exact uU64) (wrap_u (by omega) (by omega)) rfl ?_
    rw [show n = (n.natAbs : Int) by omega]
    refine QW gorWord (rWord_ok n.natAbs (by omega)) rfl rfl rfl rfl ?_
    (refine Qv rfl rfl rfl ?_; refine Qj (hK _ _ (Qz (Q0 ?_))); clear hK K)
    refine QU [_] rfl (QQ rfl QX) rfl rfl
theorem gormagnitude : InGo Tryz.prog 53 := InGo.of Tryz.func53 (by kernel_rfl) (by kernel_rfl)
set_option maxHeartbeats 2000000 in
theorem rreduced_ok (neg : Bool) (a b : Nat) (h0 : 0 < b) (la : (limbs a).length ≤ 10000) (lb : (limbs b).length ≤ 10000) : Ok Tryz.prog 52 [boolC neg, natC a, natC b] (fracC (redF neg a b)) := by
  have hg0 : 0 < Nat.gcd a b := Nat.gcd_pos_of_pos_right _ h0
  have hg1 : Nat.gcd a b ≤ b := Nat.gcd_le_right _ h0
  have lg : (limbs (Nat.gcd a b)).length ≤ 10000 := Nat.le_trans (Xc hg1) lb
  have h1 := rGcd_ok a b la lb
  have h2 := rSplit_ok a _ hg0 la lg
  have h3 := rSplit_ok b _ hg0 lb lg
  have e0 : a ≠ 0 → redF neg a b = ⟨neg, a / Nat.gcd a b, b / Nat.gcd a b⟩ := fun ha => by
    unfold redF
    have : a / Nat.gcd a b ≠ 0 := by
      have := Nat.div_pos (Nat.gcd_le_left b (Nat.pos_of_ne_zero ha)) hg0
      omega
    simp [this]
  have e1 : a = 0 → redF neg a b = ⟨false, 0, 1⟩ := fun ha => by
    subst ha; unfold redF; simp [Nat.div_self h0]
  have e11 : natC 1 = .fr (sliceT 1 [[intC 1]]) := by show intsC (limbs 1) = _; rw [ZU (by decide) (by decide)]; rfl
  generalize Nat.gcd a b = g at *
  refine Ok.enter Tryz.func52 rfl _ Tryz.ntmps52 rfl ?_
  intro S w
  (refine Qw (Qx fun K hK => ?_); refine Qh 0 rfl rfl (by with_reducible exact zvFrac) rfl rfl rfl ?_; refine Qj (hK _ _ (Qz (Qw (Qw ?_)))); clear hK K; refine Qx (fun K hK => ?_); refine Qq rfl rfl rfl ?_; refine Qd rfl rfl (by with_reducible exact sNat.und) (List.length_map ..) rfl ?_; refine Qk ieql rfl rfl rfl rfl ?_; refine Qj (hK _ _ (Qz ?_)); clear hK K)
  refine Q2 rfl (fun h => ?_) (fun h => ?_)
  · have ha : a = 0 := Yz (List.eq_nil_of_length_eq_zero (by omega))
    have e2 := e1 ha
    (refine Qw (Qx fun K hK => ?_))
    refine Xp rfl rfl (by with_reducible exact sNat) rfl rfl rfl ?_
    rw [← e11]
    refine Xq rfl (by with_reducible exact bFrac) rfl (.one rfl rfl rfl rfl .nil) rfl ?_
    (refine Qe 3 rfl rfl rfl rfl rfl (by with_reducible exact szFrac) rfl rfl ?_; refine Qj (hK _ _ (Qz (Q0 (QY ?_)))); clear hK K)
    refine QU [_] rfl (X4 (w_agg (ds := [boolC false, intsC [], natC 1]) (by exact ⟨w_same, Z9, w_same, trivial⟩)) (Qi (n := 3) rfl rfl (by with_reducible exact Zh) rfl QX)) (by rw [e2, ← natC_zero]; rfl) rfl
  · have ha : a ≠ 0 := fun ha => h (by rw [ha, limbs_zero]; rfl)
    have e2 := e0 ha
    (refine Q1 (Qz (Qw (Qx fun K hK => ?_))); refine Qq rfl rfl rfl ?_; refine Qq rfl rfl rfl ?_)
    refine QW gorGcd h1 rfl rfl rfl rfl ?_
    (refine Qv rfl rfl rfl ?_; refine Qj (hK _ _ (Qz (Qw ?_))); clear hK K; refine Qx (fun K hK => ?_); refine Qq rfl rfl rfl ?_; refine Qq rfl rfl rfl ?_)
    refine QW gorSplit h2 rfl rfl rfl rfl ?_
    (refine Qq rfl rfl rfl ?_; refine Qf rfl rfl rfl rfl ?_; refine Qf rfl rfl rfl rfl ?_; refine Qv rfl rfl rfl ?_; refine Qv rfl rfl rfl ?_; refine Qj (hK _ _ (Qz (Qw ?_))); clear hK K; refine Qx (fun K hK => ?_); refine Qq rfl rfl rfl ?_; refine Qq rfl rfl rfl ?_)
    refine QW gorSplit h3 rfl rfl rfl rfl ?_
    (refine Qq rfl rfl rfl ?_; refine Qf rfl rfl rfl rfl ?_; refine Qf rfl rfl rfl rfl ?_; refine Qv rfl rfl rfl ?_; refine Qv rfl rfl rfl ?_; refine Qj (hK _ _ (Qz (Qw ?_))); clear hK K; refine Qx (fun K hK => ?_); refine Qq rfl rfl rfl ?_; refine Qq rfl rfl rfl ?_; refine Qq rfl rfl rfl ?_)
    refine Xq rfl (by with_reducible exact bFrac) rfl (.one rfl rfl rfl rfl (.one rfl rfl rfl rfl (.one rfl rfl rfl rfl .nil))) rfl ?_
    (refine Qe 3 rfl rfl rfl rfl rfl (by with_reducible exact szFrac) rfl rfl ?_; refine Qj (hK _ _ (Qz (Q0 ?_))); clear hK K)
    refine QU [_] rfl (Qi (n := 3) rfl rfl (by with_reducible exact Zh) rfl QX) (by rw [e2]; rfl) rfl
theorem gorreduced : InGo Tryz.prog 52 := InGo.of Tryz.func52 (by kernel_rfl) (by kernel_rfl)
set_option maxHeartbeats 2000000 in
theorem rFrom_ok (n d : Int) (h1 : -9223372036854775808 ≤ n) (h2 : n ≤ 9223372036854775807) (h3 : -9223372036854775808 ≤ d) (h4 : d ≤ 9223372036854775807) (h0 : d ≠ 0) : Ok Tryz.prog 18 [intC n, intC d] (.fr (tupT [ratC (Rat.divInt n d), intC 0])) := by
  have hl : (limbs n.natAbs).length ≤ 3 := XJ (k := 3) (by omega); have hl2 : (limbs d.natAbs).length ≤ 3 := XJ (k := 3) (by omega); rw [show ratC (Rat.divInt n d) = fracC (redF (decide (n < 0) != decide (d < 0)) n.natAbs d.natAbs) from by rw [from_redF n d h0]]
  refine Ok.enter Tryz.func18 J _ Tryz.ntmps18 J ?_
  intro S w; refine Qw (Qx fun K hK => ?_); refine Qh 0 J J zvFrac J J J (Qv J J J (Qj (hK _ _ (Qz (Qw (Qw ?_)))))); clear hK K; refine Qx (fun K hK => ?_); refine Qq J J J (Qk ieql J J J J (Qj (hK _ _ (Qz ?_)))); clear hK K; refine Q2 J (fun h => absurd h h0) (fun h => ?_); refine Q1 (Qz (Qw (Qx fun K hK => ?_))); refine Qq J J J (Qk ilss J J J J (Qq J J J (Qk ilss J J J J (Ops.bne J J J uBool J ?_)))); rw [dne]; refine Qq J J J (QW gormagnitude (rmagnitude_ok n h1 h2) J J J J (Qq J J J (QW gormagnitude (rmagnitude_ok d h3 h4) J J J J (QW gorreduced (rreduced_ok _ n.natAbs d.natAbs (by omega) (by omega) (by omega)) J J J J ?_)))); refine Qe 3 J J J J J szFrac J J (Qv J J J (Qj (hK _ _ (Qz (Q0 ?_))))); clear hK K; refine QU [_, _] rfl (Qi (n := 3) J J Zh J (QQ J QX)) J J
theorem gorFrom : InGo Tryz.prog 18 := InGo.of Tryz.func18 (by kernel_rfl) (by kernel_rfl)
def oppF (f : Fr) : Fr := ⟨!f.neg && decide (f.num ≠ 0), f.num, f.den⟩
attribute [local irreducible] OkB OkN wpA
def eqFr (f g : Fr) : Bool := decide (f.neg = g.neg ∧ limbs f.num = limbs g.num ∧ limbs f.den = limbs g.den)
theorem eqFr_self (f : Fr) : eqFr f f = true := decide_eq_true ⟨rfl, rfl, rfl⟩
theorem ext_getD {xs ys : List Int} (hl : xs.length = ys.length) (h : ∀ j, j < xs.length → xs.getD j 0 = ys.getD j 0) : xs = ys := by
  refine List.ext_getElem hl fun j h1 h2 => ?_
  have := h j h1
  simpa [List.getD_eq_getElem?_getD, List.getElem?_eq_getElem h1, List.getElem?_eq_getElem h2] using this
theorem goEqual : InGo Tryz.prog 34 := InGo.of Tryz.func34 rfl (by decide)
set_option maxHeartbeats 4000000 in
theorem Equal_ok (f g : Fr) (hn : (limbs f.num).length ≤ 1000) (hd : (limbs f.den).length ≤ 1000) (hn2 : (limbs g.num).length ≤ 1000) (hd2 : (limbs g.den).length ≤ 1000) : Ok Tryz.prog 34 [fracC f, fracC g] (boolC (eqFr f g)) := by
  have no1 : f.neg ≠ g.neg → eqFr f g = false := fun h => decide_eq_false fun e => h e.1
  have no2 : limbs f.num ≠ limbs g.num → eqFr f g = false := fun h => decide_eq_false fun e => h e.2.1
  have no3 : limbs f.den ≠ limbs g.den → eqFr f g = false := fun h => decide_eq_false fun e => h e.2.2
  have yes : f.neg = g.neg → limbs f.num = limbs g.num → limbs f.den = limbs g.den → eqFr f g = true := fun h1 h2 h3 => decide_eq_true ⟨h1, h2, h3⟩
  generalize eqFr f g = e at no1 no2 no3 yes ⊢
  refine Ok.enter Tryz.func34 rfl _ Tryz.ntmps34 rfl ?_
  intro S w
  (refine Qw (Qx fun K hK => ?_); refine Xk 0 rfl rfl rfl rfl rfl rfl rfl ?_; refine Xk 1 rfl rfl rfl rfl rfl rfl rfl ?_; refine Qv rfl rfl rfl ?_; refine Qj (hK _ _ (Qz (Qw (Qw ?_)))); clear hK K; refine Qx (fun K hK => ?_); refine QV rfl rfl rfl (by with_reducible first | exact fF0 | exact fF1 | exact fF2 | exact fR0 | exact fR1) rfl ?_; refine QJ rfl rfl rfl rfl rfl (by with_reducible first | exact lInt | exact lNat | exact lBool | exact lInts) rfl ?_; refine QV rfl rfl rfl (by with_reducible first | exact fF0 | exact fF1 | exact fF2 | exact fR0 | exact fR1) rfl ?_; refine QJ rfl rfl rfl rfl rfl (by with_reducible first | exact lInt | exact lNat | exact lBool | exact lInts) rfl ?_)
  refine Ops.bne rfl rfl rfl (by with_reducible exact uBool) rfl ?_
  (refine Qq rfl rfl rfl ?_)
  refine Q5 12 rfl (fun h1 => ?_) (fun h1 => ?_)
  · (refine Qy rfl rfl rfl ?_; refine Qy rfl rfl rfl ?_; refine Qy rfl rfl rfl ?_; refine Qy rfl rfl rfl ?_; refine Qy rfl rfl rfl ?_; refine Qy rfl rfl rfl ?_; refine Qy rfl rfl rfl ?_; refine QZ rfl rfl rfl rfl ?_; refine Qq rfl rfl rfl ?_; refine Qy rfl rfl rfl ?_; refine Qy rfl rfl rfl ?_; refine Qy rfl rfl rfl ?_; refine Qy rfl rfl rfl ?_; refine Qy rfl rfl rfl ?_; refine Qy rfl rfl rfl ?_; refine Qy rfl rfl rfl ?_; refine QZ rfl rfl rfl rfl ?_; refine Qj (hK _ _ (Qz (Qo rfl (Qw ?_)))); clear hK K; refine Qx (fun K hK => ?_); refine Qv rfl rfl rfl ?_; refine Qj (hK _ _ (Qz (Q0 (QY ?_)))); clear hK K)
    refine QU [_] rfl (QQ rfl QX) (by rw [no1 h1]; rfl) rfl
  have h1 : f.neg = g.neg := Decidable.byContradiction h1
  (refine QV rfl rfl rfl (by with_reducible first | exact fF0 | exact fF1 | exact fF2 | exact fR0 | exact fR1) rfl ?_; refine QJ rfl rfl rfl rfl rfl (by with_reducible first | exact lInt | exact lNat | exact lBool | exact lInts) rfl ?_; refine Qd rfl rfl (by with_reducible first | exact sNat.und | exact sInts.und) (List.length_map ..) rfl ?_; refine QV rfl rfl rfl (by with_reducible first | exact fF0 | exact fF1 | exact fF2 | exact fR0 | exact fR1) rfl ?_; refine QJ rfl rfl rfl rfl rfl (by with_reducible first | exact lInt | exact lNat | exact lBool | exact lInts) rfl ?_; refine Qd rfl rfl (by with_reducible first | exact sNat.und | exact sInts.und) (List.length_map ..) rfl ?_; refine Qk ineq rfl rfl rfl rfl ?_; refine QK rfl rfl rfl rfl ?_; refine Qq rfl rfl rfl ?_)
  refine Q5 21 rfl (fun h2 => ?_) (fun h2 => ?_)
  · (refine Qy rfl rfl rfl ?_; refine Qy rfl rfl rfl ?_; refine Qy rfl rfl rfl ?_; refine Qy rfl rfl rfl ?_; refine Qy rfl rfl rfl ?_; refine Qy rfl rfl rfl ?_; refine Qy rfl rfl rfl ?_; refine QZ rfl rfl rfl rfl ?_; refine Qj (hK _ _ (Qz (Qo rfl (Qw ?_)))); clear hK K; refine Qx (fun K hK => ?_); refine Qv rfl rfl rfl ?_; refine Qj (hK _ _ (Qz (Q0 (QY ?_)))); clear hK K)
    refine QU [_] rfl (QQ rfl QX) (by rw [no2 (fun h => h2 (by rw [h]))]; rfl) rfl
  have h2 : (limbs f.num).length = (limbs g.num).length := by
    have := Decidable.byContradiction h2
    omega
  (refine QV rfl rfl rfl (by with_reducible first | exact fF0 | exact fF1 | exact fF2 | exact fR0 | exact fR1) rfl ?_; refine QJ rfl rfl rfl rfl rfl (by with_reducible first | exact lInt | exact lNat | exact lBool | exact lInts) rfl ?_; refine Qd rfl rfl (by with_reducible first | exact sNat.und | exact sInts.und) (List.length_map ..) rfl ?_; refine QV rfl rfl rfl (by with_reducible first | exact fF0 | exact fF1 | exact fF2 | exact fR0 | exact fR1) rfl ?_; refine QJ rfl rfl rfl rfl rfl (by with_reducible first | exact lInt | exact lNat | exact lBool | exact lInts) rfl ?_; refine Qd rfl rfl (by with_reducible first | exact sNat.und | exact sInts.und) (List.length_map ..) rfl ?_; refine Qk ineq rfl rfl rfl rfl ?_; refine QK rfl rfl rfl rfl ?_; refine Qj (hK _ _ (Qz ?_)); clear hK K)
  refine Q2 rfl (fun h3 => ?_) (fun h3 => ?_)
  · (refine Qw (Qx fun K hK => ?_); refine Qv rfl rfl rfl ?_; refine Qj (hK _ _ (Qz (Q0 (QY ?_)))); clear hK K)
    refine QU [_] rfl (QQ rfl QX) (by rw [no3 (fun h => h3 (by rw [h]))]; rfl) rfl
  have h3 : (limbs f.den).length = (limbs g.den).length := by
    have := Decidable.byContradiction h3
    omega
  (refine Q1 (Qz (Qw (Qw (Qx fun K hK => ?_)))); refine Qv rfl rfl rfl ?_; refine Qj (hK _ _ (Qz (Q4 ?_))); clear hK K)
  refine Xz (α := Nat) (fun k => k ≤ (limbs f.num).length ∧ ∀ j, j < k → (limbs f.num).getD j 0 = (limbs g.num).getD j 0)
    (fun k => [(2, .own 0), (3, .own 1), (5, .ct (intC k))]) (fun _ => [(1, .box 53 (frCs g)), (0, .box 53 (frCs f))]) (fun k => (limbs f.num).length - k) 0 ⟨Nat.zero_le _, fun j h => absurd h (Nat.not_lt_zero j)⟩ (by exact Qu rfl ⟨rfl, rfl, rfl, trivial⟩) ?_
  intro k ⟨hk, hv⟩
  dsimp only at hk ⊢
  have e2 : (k : Int).toNat = k := Int.toNat_natCast k
  (refine Qw (Qw (Qx fun K hK => ?_)); refine Qq rfl rfl rfl ?_; refine QV rfl rfl rfl (by with_reducible first | exact fF0 | exact fF1 | exact fF2 | exact fR0 | exact fR1) rfl ?_; refine QJ rfl rfl rfl rfl rfl (by with_reducible first | exact lInt | exact lNat | exact lBool | exact lInts) rfl ?_; refine Qd rfl rfl (by with_reducible first | exact sNat.und | exact sInts.und) (List.length_map ..) rfl ?_; refine Qk ilss rfl rfl rfl rfl ?_; refine Qj (hK _ _ (Qz ?_)); clear hK K)
  refine Q2 rfl (fun h => ?_) (fun h => ?_)
  · (refine Q1 (Qz (Qw (Q4 (Qw ?_)))))
    refine Xu (by with_reducible exact mixed) 11 (.p 0 (.p 2 (.p 5 (.p 7 (.f 1 (.p 3 (.f 4 (.f 6 (.p 8 (.f 9 (.p 10 .done))))))))))) (by kernel_rfl) (fun K hK => ?_)
    (refine QV rfl rfl rfl (by with_reducible first | exact fF0 | exact fF1 | exact fF2 | exact fR0 | exact fR1) rfl ?_; refine Qq rfl rfl rfl ?_; refine QV rfl rfl rfl (by with_reducible first | exact fF0 | exact fF1 | exact fF2 | exact fR0 | exact fR1) rfl ?_; refine Qq rfl rfl rfl ?_; refine QJ rfl rfl rfl rfl rfl (by with_reducible first | exact lInt | exact lNat | exact lBool | exact lInts) rfl ?_; refine Qg rfl rfl rfl (by with_reducible first | exact sNat | exact sInts) (by omega) (X5 (by omega) (by omega)) rfl ?_; refine Xy rfl rfl rfl (by with_reducible first | exact lInt | exact lNat | exact lBool | exact lInts) rfl ?_; refine QJ rfl rfl rfl rfl rfl (by with_reducible first | exact lInt | exact lNat | exact lBool | exact lInts) rfl ?_; refine Qg rfl rfl rfl (by with_reducible first | exact sNat | exact sInts) (by omega) (X5 (by omega) (by omega)) rfl ?_; refine Xy rfl rfl rfl (by with_reducible first | exact lInt | exact lNat | exact lBool | exact lInts) rfl ?_; refine Qk ineq rfl rfl rfl rfl ?_; refine Qj (hK _ _ (Qz ?_)); clear hK K)
    refine Q2 rfl (fun h4 => ?_) (fun h4 => ?_)
    · rw [e2] at h4
      (refine Qw (Qx fun K hK => ?_); refine Qv rfl rfl rfl ?_; refine Qj (hK _ _ (Qz (Q0 (Q8 (QY (QY (Q8 (QY ?_)))))))); clear hK K)
      refine QU [_] rfl (QQ rfl QX) (by rw [no2 (fun h => h4 (by rw [h]))]; rfl) rfl
    · rw [e2] at h4
      have h4 := Decidable.byContradiction h4
      (refine Q1 (Qz (Qx fun K hK => ?_)); refine Qq rfl rfl rfl ?_; refine Qk (iadd (by omega) (by omega)) rfl rfl rfl rfl ?_; refine Qv rfl rfl rfl ?_; refine Qj (hK _ _ (Q3 ?_)); clear hK K)
      refine Q7 (k + 1) (by omega) ⟨by omega, fun j hj => ?_⟩ (by exact Qu rfl ⟨rfl, rfl, by simp only [Int.natCast_add]; rfl, trivial⟩)
      rcases Nat.lt_or_ge j k with h5 | h5
      · exact hv j h5
      · have : j = k := by omega
        rw [this]; exact h4
  · have hnum : limbs f.num = limbs g.num := ext_getD h2 fun j hj => hv j (by omega)
    clear hv
    (refine Qn (Qz (Qw (Qw (Qx fun K hK => ?_)))); refine Qv rfl rfl rfl ?_; refine Qj (hK _ _ (Qz (Q4 ?_))); clear hK K)
    refine Xz (α := Nat) (fun k => k ≤ (limbs f.den).length ∧ ∀ j, j < k → (limbs f.den).getD j 0 = (limbs g.den).getD j 0)
      (fun k => [(2, .own 0), (3, .own 1), (6, .ct (intC k))]) (fun _ => [(1, .box 53 (frCs g)), (0, .box 53 (frCs f))]) (fun k => (limbs f.den).length - k) 0 ⟨Nat.zero_le _, fun j h => absurd h (Nat.not_lt_zero j)⟩ (by exact Qu rfl ⟨rfl, rfl, rfl, trivial⟩) ?_
    clear hk e2 h
    clear k
    intro k ⟨hk, hv⟩
    dsimp only at hk ⊢
    have e2 : (k : Int).toNat = k := Int.toNat_natCast k
    (refine Qw (Qw (Qx fun K hK => ?_)); refine Qq rfl rfl rfl ?_; refine QV rfl rfl rfl (by with_reducible first | exact fF0 | exact fF1 | exact fF2 | exact fR0 | exact fR1) rfl ?_; refine QJ rfl rfl rfl rfl rfl (by with_reducible first | exact lInt | exact lNat | exact lBool | exact lInts) rfl ?_; refine Qd rfl rfl (by with_reducible first | exact sNat.und | exact sInts.und) (List.length_map ..) rfl ?_; refine Qk ilss rfl rfl rfl rfl ?_; refine Qj (hK _ _ (Qz ?_)); clear hK K)
    refine Q2 rfl (fun h => ?_) (fun h => ?_)
    · (refine Q1 (Qz (Qw (Q4 (Qw ?_)))))
      refine Xu (by with_reducible exact mixed) 11 (.p 0 (.p 2 (.p 5 (.p 7 (.f 1 (.p 3 (.f 4 (.f 6 (.p 8 (.f 9 (.p 10 .done))))))))))) (by kernel_rfl) (fun K hK => ?_)
      (refine QV rfl rfl rfl (by with_reducible first | exact fF0 | exact fF1 | exact fF2 | exact fR0 | exact fR1) rfl ?_; refine Qq rfl rfl rfl ?_; refine QV rfl rfl rfl (by with_reducible first | exact fF0 | exact fF1 | exact fF2 | exact fR0 | exact fR1) rfl ?_; refine Qq rfl rfl rfl ?_; refine QJ rfl rfl rfl rfl rfl (by with_reducible first | exact lInt | exact lNat | exact lBool | exact lInts) rfl ?_; refine Qg rfl rfl rfl (by with_reducible first | exact sNat | exact sInts) (by omega) (X5 (by omega) (by omega)) rfl ?_; refine Xy rfl rfl rfl (by with_reducible first | exact lInt | exact lNat | exact lBool | exact lInts) rfl ?_; refine QJ rfl rfl rfl rfl rfl (by with_reducible first | exact lInt | exact lNat | exact lBool | exact lInts) rfl ?_; refine Qg rfl rfl rfl (by with_reducible first | exact sNat | exact sInts) (by omega) (X5 (by omega) (by omega)) rfl ?_; refine Xy rfl rfl rfl (by with_reducible first | exact lInt | exact lNat | exact lBool | exact lInts) rfl ?_; refine Qk ineq rfl rfl rfl rfl ?_; refine Qj (hK _ _ (Qz ?_)); clear hK K)
      refine Q2 rfl (fun h4 => ?_) (fun h4 => ?_)
      · rw [e2] at h4
        (refine Qw (Qx fun K hK => ?_); refine Qv rfl rfl rfl ?_; refine Qj (hK _ _ (Qz (Q0 (Q8 (QY (QY (Q8 (QY ?_)))))))); clear hK K)
        refine QU [_] rfl (QQ rfl QX) (by rw [no3 (fun h => h4 (by rw [h]))]; rfl) rfl
      · rw [e2] at h4
        have h4 := Decidable.byContradiction h4
        (refine Q1 (Qz (Qx fun K hK => ?_)); refine Qq rfl rfl rfl ?_; refine Qk (iadd (by omega) (by omega)) rfl rfl rfl rfl ?_; refine Qv rfl rfl rfl ?_; refine Qj (hK _ _ (Q3 ?_)); clear hK K)
        refine Q7 (k + 1) (by omega) ⟨by omega, fun j hj => ?_⟩ (by exact Qu rfl ⟨rfl, rfl, by simp only [Int.natCast_add]; rfl, trivial⟩)
        rcases Nat.lt_or_ge j k with h5 | h5
        · exact hv j h5
        · have : j = k := by omega
          rw [this]; exact h4
    · have hden : limbs f.den = limbs g.den := ext_getD h3 fun j hj => hv j (by omega)
      clear hv
      (refine Qn (Qz (Qw (Qx fun K hK => ?_))); refine Qv rfl rfl rfl ?_; refine Qj (hK _ _ (Qz (Q0 ?_))); clear hK K)
      refine QU [_] rfl (QQ rfl QX) (by rw [yes h1 hnum hden]; rfl) rfl
end Go.Proofs.YtlkdkbdgnjcopaaGreat
namespace Go.Proofs.YtlkdkbdgnjcopaaGreat
open Go.Own Go.Limbs
attribute [local irreducible] St Ops Go.Own.Fin Ok OkB OkN OkT OkL OkF OkM
def dA : List (Int × Int) := [(2, 1), (2, 1), (2, 1), (2, 0), (2, 0), (2, 0), (2, 0), (2, 0), (2, 0), (2, 0), (1, 0)]
theorem dA_low : ∀ i, i < 3 → dA.getD i (0, 0) = (2, 1) := by decide
theorem dA_mid : ∀ i, i < 10 → 2 < i → dA.getD i (0, 0) = (2, 0) := by decide
theorem dA_cnt : cntF (xF 5 0 dA) (wk 2) 1 = (⟨wk 2, 10, 2, 3⟩, 0) := by
  rw [xF_cnt (n := 2) (by decide) (by decide) (by decide) (by decide) (fun t h1 h2 => ?_) (by decide) (by decide) (by decide) (by decide)]
  · decide
  · have : t = 1 ∨ t = 2 := by omega
    rcases this with h | h <;> subst h <;> decide
theorem q2n : (ofQ (Rat.divInt 2 10)).num = 1 := by kernel_rfl
theorem q2d : (ofQ (Rat.divInt 2 10)).den = 5 := by kernel_rfl
theorem q3n : (ofQ (Rat.divInt 3 10)).num = 3 := by kernel_rfl
theorem q3d : (ofQ (Rat.divInt 3 10)).den = 10 := by kernel_rfl
theorem eq_low : eqFr (ofQ (Rat.divInt 2 10)) (ofQ (Rat.divInt 3 10)) = false := decide_eq_false fun h => by
  have h := h.2.1
  rw [q2n, q3n, ZU (by decide) (by decide), ZU (by decide) (by decide)] at h
  exact absurd h (by decide)
theorem goawake : InGo Tryz.prog 9 := InGo.of Tryz.func9 rfl (by decide)
set_option maxHeartbeats 8000000 in
theorem awake_ok : Ok Tryz.prog 9 [] (boolC true) := by
  have hC := Count_ok (xF 5 0 dA) (by rw [xF_len]; decide) (wk 2) 1
  rw [dA_cnt] at hC
  have hR := Rate_ok ⟨wk 2, 10, 2, 3⟩ (by decide) (by decide) (by decide)
  rw [show rateC ⟨wk 2, 10, 2, 3⟩ = .fr (tupT [ratC (Rat.divInt 2 10), ratC (Rat.divInt 3 10), intC 0]) from if_neg (by decide)] at hR
  have hF := rFrom_ok 3 10 (by decide) (by decide) (by decide) (by decide) (by decide)
  have b1 : (limbs (ofQ (Rat.divInt 2 10)).num).length ≤ 1000 ∧ (limbs (ofQ (Rat.divInt 2 10)).den).length ≤ 1000 ∧ (limbs (ofQ (Rat.divInt 3 10)).num).length ≤ 1000 ∧ (limbs (ofQ (Rat.divInt 3 10)).den).length ≤ 1000 := by
    rw [q2n, q2d, q3n, q3d, ZU (by decide) (by decide), ZU (by decide) (by decide), ZU (by decide) (by decide), ZU (by decide) (by decide)]; decide
  have hE1 := Equal_ok (ofQ (Rat.divInt 3 10)) (ofQ (Rat.divInt 3 10)) b1.2.2.1 b1.2.2.2 b1.2.2.1 b1.2.2.2
  rw [eqFr_self] at hE1
  have hE2 := Equal_ok (ofQ (Rat.divInt 2 10)) (ofQ (Rat.divInt 3 10)) b1.1 b1.2.1 b1.2.2.1 b1.2.2.2
  rw [eq_low] at hE2
  refine Ok.enter Tryz.func9 rfl _ Tryz.ntmps9 rfl ?_
  intro S w0
  (refine Qw (Qx fun K hK => ?_); refine Qv rfl rfl rfl ?_; refine Qj (hK _ _ (Qz (Qw ?_))); clear hK K; refine Qx (fun K hK => ?_); refine Qv rfl rfl rfl ?_; refine Qj (hK _ _ (Qz (Qw (Qw ?_)))); clear hK K; refine Qx (fun K hK => ?_); refine Qv rfl rfl rfl ?_; refine Qj (hK _ _ (Qz (Q4 ?_))); clear hK K)
  refine Xf 1 0 35 17 rfl rfl rfl ?_
  refine Xz (α := Nat) (fun i => i ≤ 11) (fun i => [(1, .own 0), (2, .ct (intC i))]) (fun i => [(0, .row 35 17 (rss (xF 5 0 (dA.take i))))]) (fun i => 11 - i) 0 (Nat.zero_le _) (by exact Qu rfl ⟨rfl, rfl, trivial⟩) ?_
  intro i hi
  try dsimp only at hi ⊢
  (refine Qw (Qw (Qx fun K hK => ?_)); refine Qq rfl rfl rfl ?_; refine Qk ilss rfl rfl rfl rfl ?_; refine Qj (hK _ _ (Qz ?_)); clear hK K)
  refine Q2 rfl (fun h => ?_) (fun h => ?_)
  · have hx := take_snoc (z := ((0, 0) : Int × Int)) (l := dA) (i := i) (by show i < 11; omega)
    have hlen2 : (dA.take i).length = i := by rw [List.length_take]; show min i 11 = i; omega
    have hlen : (xF 5 0 (dA.take i)).length = i := by rw [xF_len, hlen2]
    (refine Q1 (Qz (Qw (Q4 (Qw (Qx fun K hK => ?_))))); refine Qq rfl rfl rfl ?_; refine Qq rfl rfl rfl ?_; refine Qk (imul (by omega) (by omega)) rfl rfl rfl rfl ?_; refine Qq rfl rfl rfl ?_; refine Qk (imul (by omega) (by omega)) rfl rfl rfl rfl ?_; refine Qk (iadd (by omega) (by omega)) rfl rfl rfl rfl ?_)
    refine Xq rfl (by with_reducible exact bRes) rfl (.one rfl rfl rfl rfl (.one rfl rfl rfl rfl (.one rfl rfl rfl rfl (.one rfl rfl rfl rfl (.one rfl rfl rfl rfl (.one rfl rfl rfl rfl .nil)))))) rfl ?_
    refine Qh 1 rfl rfl (by with_reducible exact zvRes) rfl rfl rfl ?_
    refine Qe 17 rfl rfl rfl rfl rfl (by with_reducible exact szRes) rfl rfl ?_
    (refine Qj (hK _ _ (Qz (Qw (Qw ?_)))); clear hK K; refine Qx (fun K hK => ?_); refine Qq rfl rfl rfl ?_; refine Qk ieql rfl rfl rfl rfl ?_; refine Qj (hK _ _ (Qz ?_)); clear hK K)
    refine Q2 rfl (fun g => ?_) (fun g => ?_)
    · have hi10 : i = 10 := by omega
      subst hi10
      have HD : dA.getD 10 (0, 0) = (1, 0) := rfl
      (refine Qx (fun K hK => ?_); refine QV rfl rfl rfl (by with_reducible first | exact fS0 | exact fS1 | exact fS2 | exact fS3 | exact fS4 | exact fS5 | exact fS6 | exact fS7 | exact fS8 | exact fS9 | exact fS10 | exact fS11 | exact fN0 | exact fN1 | exact fN2 | exact fN3 | exact fN4 | exact fN5) rfl ?_; refine Xh rfl rfl rfl rfl rfl (by with_reducible first | exact zInt | exact zAddr | exact zClaims) (Nat.le_of_ble_eq_true rfl) ?_; refine Qj (hK _ _ (Qz (Qw (Qw ?_)))); clear hK K; refine Qx (fun K hK => ?_); refine Qq rfl rfl rfl ?_; refine Qk igtr rfl rfl rfl rfl ?_; refine Qj (hK _ _ (Qz (Qo rfl ?_))); clear hK K; refine Qx (fun K hK => ?_); refine QV rfl rfl rfl (by with_reducible first | exact fS0 | exact fS1 | exact fS2 | exact fS3 | exact fS4 | exact fS5 | exact fS6 | exact fS7 | exact fS8 | exact fS9 | exact fS10 | exact fS11 | exact fN0 | exact fN1 | exact fN2 | exact fN3 | exact fN4 | exact fN5) rfl ?_; refine QJ rfl rfl rfl rfl rfl (by with_reducible first | exact lInt | exact Q9 | exact Q6 | exact lRess) rfl ?_)
      refine Zg (q := 1) rfl rfl (by with_reducible exact uInt) (by with_reducible exact uAddr) (by decide) rfl ?_
      refine Xq rfl (by with_reducible exact bAns) rfl (.one rfl rfl rfl rfl (.one rfl rfl rfl rfl .nil)) rfl ?_
      (refine QV rfl rfl rfl (by with_reducible first | exact fS0 | exact fS1 | exact fS2 | exact fS3 | exact fS4 | exact fS5 | exact fS6 | exact fS7 | exact fS8 | exact fS9 | exact fS10 | exact fS11 | exact fN0 | exact fN1 | exact fN2 | exact fN3 | exact fN4 | exact fN5) rfl ?_)
      refine Xh rfl rfl rfl rfl rfl (by with_reducible exact zBool1) (Nat.le_of_ble_eq_true rfl) ?_
      (refine QV rfl rfl rfl (by with_reducible first | exact fS0 | exact fS1 | exact fS2 | exact fS3 | exact fS4 | exact fS5 | exact fS6 | exact fS7 | exact fS8 | exact fS9 | exact fS10 | exact fS11 | exact fN0 | exact fN1 | exact fN2 | exact fN3 | exact fN4 | exact fN5) rfl ?_)
      refine Ops.stNA rfl rfl rfl rfl rfl (by exact szAns) (Nat.le_of_ble_eq_true rfl) ?_
      (refine Qj (hK _ _ (Qz ?_)); clear hK K; refine Qx (fun K hK => ?_); refine Qq rfl rfl rfl ?_; refine Qa (n := 17) rfl rfl rfl rfl rfl (by with_reducible exact lRes) rfl ?_)
      refine X6 (n := 17) rfl rfl (by with_reducible exact sRes) rfl rfl (by decide) rfl ?_
      refine Qs 10 (rss (xF 5 0 (dA.take (10 + 1)))) rfl rfl rfl rfl (by with_reducible exact sRes) (by rw [X1, hlen]) rfl (by omega) (by omega) (by rw [hx, xF_snoc, ZK, hlen2, HD, Int.zero_add]; rfl) rfl ?_
      (refine Qv rfl rfl rfl ?_; refine Qj (hK _ _ (Qz ?_)); clear hK K; refine Qx (fun K hK => ?_); refine Qq rfl rfl rfl ?_; refine Qk (iadd (by omega) (by omega)) rfl rfl rfl rfl ?_; refine Qv rfl rfl rfl ?_; refine Qj (hK _ _ (Q3 ?_)); clear hK K)
      refine Qm 1 ?_
      refine Q7 (10 + 1) (by omega) (by omega) (by exact Qu rfl ⟨rfl, by simp only [Int.natCast_add]; rfl, trivial⟩)
    (refine Q1 (Qz (Qw (Qw (Qx fun K hK => ?_)))); refine Qq rfl rfl rfl ?_; refine Qk igtr rfl rfl rfl rfl ?_; refine Qj (hK _ _ (Qz ?_)); clear hK K)
    refine Q2 rfl (fun g2 => ?_) (fun g2 => ?_)
    · have HD := dA_mid i (by omega) (by omega)
      (refine Qx (fun K hK => ?_); refine QV rfl rfl rfl (by with_reducible first | exact fS0 | exact fS1 | exact fS2 | exact fS3 | exact fS4 | exact fS5 | exact fS6 | exact fS7 | exact fS8 | exact fS9 | exact fS10 | exact fS11 | exact fN0 | exact fN1 | exact fN2 | exact fN3 | exact fN4 | exact fN5) rfl ?_; refine QJ rfl rfl rfl rfl rfl (by with_reducible first | exact lInt | exact Q9 | exact Q6 | exact lRess) rfl ?_)
      refine Zg (q := 2) rfl rfl (by with_reducible exact uInt) (by with_reducible exact uAddr) (by decide) rfl ?_
      refine Xq rfl (by with_reducible exact bAns) rfl (.one rfl rfl rfl rfl (.one rfl rfl rfl rfl .nil)) rfl ?_
      (refine QV rfl rfl rfl (by with_reducible first | exact fS0 | exact fS1 | exact fS2 | exact fS3 | exact fS4 | exact fS5 | exact fS6 | exact fS7 | exact fS8 | exact fS9 | exact fS10 | exact fS11 | exact fN0 | exact fN1 | exact fN2 | exact fN3 | exact fN4 | exact fN5) rfl ?_)
      refine Xh rfl rfl rfl rfl rfl (by with_reducible exact zBool1) (Nat.le_of_ble_eq_true rfl) ?_
      (refine QV rfl rfl rfl (by with_reducible first | exact fS0 | exact fS1 | exact fS2 | exact fS3 | exact fS4 | exact fS5 | exact fS6 | exact fS7 | exact fS8 | exact fS9 | exact fS10 | exact fS11 | exact fN0 | exact fN1 | exact fN2 | exact fN3 | exact fN4 | exact fN5) rfl ?_)
      refine Ops.stNA rfl rfl rfl rfl rfl (by exact szAns) (Nat.le_of_ble_eq_true rfl) ?_
      (refine Qj (hK _ _ (Qz ?_)); clear hK K; refine Qx (fun K hK => ?_); refine Qq rfl rfl rfl ?_; refine Qa (n := 17) rfl rfl rfl rfl rfl (by with_reducible exact lRes) rfl ?_)
      refine X6 (n := 17) rfl rfl (by with_reducible exact sRes) rfl rfl (by decide) rfl ?_
      refine Qs i (rss (xF 5 0 (dA.take (i + 1)))) rfl rfl rfl rfl (by with_reducible exact sRes) (by rw [X1, hlen]) rfl (by omega) (by omega) (by rw [hx, xF_snoc, ZK, hlen2, HD, Int.zero_add]; rfl) rfl ?_
      (refine Qv rfl rfl rfl ?_; refine Qj (hK _ _ (Qz ?_)); clear hK K; refine Qx (fun K hK => ?_); refine Qq rfl rfl rfl ?_; refine Qk (iadd (by omega) (by omega)) rfl rfl rfl rfl ?_; refine Qv rfl rfl rfl ?_; refine Qj (hK _ _ (Q3 ?_)); clear hK K)
      refine Qm 1 ?_
      refine Q7 (i + 1) (by omega) (by omega) (by exact Qu rfl ⟨rfl, by simp only [Int.natCast_add]; rfl, trivial⟩)
    · have HD := dA_low i (by omega)
      (refine Q1 (Qz (Qx fun K hK => ?_)); refine Qq rfl rfl rfl ?_; refine Qa (n := 17) rfl rfl rfl rfl rfl (by with_reducible exact lRes) rfl ?_)
      refine X6 (n := 17) rfl rfl (by with_reducible exact sRes) rfl rfl (by decide) rfl ?_
      refine Qs i (rss (xF 5 0 (dA.take (i + 1)))) rfl rfl rfl rfl (by with_reducible exact sRes) (by rw [X1, hlen]) rfl (by omega) (by omega) (by rw [hx, xF_snoc, ZK, hlen2, HD, Int.zero_add]; rfl) rfl ?_
      (refine Qv rfl rfl rfl ?_; refine Qj (hK _ _ (Qz ?_)); clear hK K; refine Qx (fun K hK => ?_); refine Qq rfl rfl rfl ?_; refine Qk (iadd (by omega) (by omega)) rfl rfl rfl rfl ?_; refine Qv rfl rfl rfl ?_; refine Qj (hK _ _ (Q3 ?_)); clear hK K)
      refine Qm 1 ?_
      refine Q7 (i + 1) (by omega) (by omega) (by exact Qu rfl ⟨rfl, by simp only [Int.natCast_add]; rfl, trivial⟩)
  · have hi' : i = 11 := by omega
    subst hi'
    rw [show List.take 11 dA = dA from rfl]
    (refine Qn (Qz (Qw (Qx fun K hK => ?_))); refine Qq rfl rfl rfl ?_)
    refine ZJ 0 _ rfl (Zz _ _) X7 ?_
    refine Xq rfl (by with_reducible exact bWire) rfl (.one rfl rfl rfl rfl (.one rfl rfl rfl rfl .nil)) rfl ?_
    refine QW goCount hC rfl rfl rfl rfl ?_
    (refine Qq rfl rfl rfl ?_; refine Qf rfl rfl rfl rfl ?_; refine Qf rfl rfl rfl rfl ?_; refine Qh 0 rfl rfl (by with_reducible first | exact zvTrav | exact zvCn) rfl rfl rfl ?_; refine Qe 5 rfl rfl rfl rfl rfl (by with_reducible exact szCn) rfl rfl ?_; refine Qv rfl rfl rfl ?_; refine Qj (hK _ _ (Qz (Qw ?_))); clear hK K; refine Qx (fun K hK => ?_); refine Qa (n := 5) rfl rfl rfl rfl rfl (by with_reducible exact lCn) rfl ?_)
    refine QW goRate hR rfl rfl rfl rfl ?_
    (refine Qq rfl rfl rfl ?_; refine Qf rfl rfl rfl rfl ?_; refine Qf rfl rfl rfl rfl ?_; refine Qf rfl rfl rfl rfl ?_)
    refine Qh 2 rfl rfl (by with_reducible exact zvFrac) rfl rfl rfl ?_
    refine Qh 3 rfl rfl (by with_reducible exact zvFrac) rfl rfl rfl ?_
    refine Qe 3 rfl rfl rfl rfl rfl (by with_reducible exact szFrac) rfl rfl ?_
    refine Qe 3 rfl rfl rfl rfl rfl (by with_reducible exact szFrac) rfl rfl ?_
    (refine Qv rfl rfl rfl ?_; refine Qj (hK _ _ (Qz (Qw ?_))); clear hK K; refine Qx (fun K hK => ?_))
    refine QW gorFrom hF rfl rfl rfl rfl ?_
    (refine Qq rfl rfl rfl ?_; refine Qf rfl rfl rfl rfl ?_; refine Qf rfl rfl rfl rfl ?_)
    refine Qh 4 rfl rfl (by with_reducible exact zvFrac) rfl rfl rfl ?_
    refine Qe 3 rfl rfl rfl rfl rfl (by with_reducible exact szFrac) rfl rfl ?_
    (refine Qv rfl rfl rfl ?_; refine Qj (hK _ _ (Qz (Qw ?_))); clear hK K; refine Qx (fun K hK => ?_); refine Qq rfl rfl rfl ?_; refine Qk ieql rfl rfl rfl rfl ?_; refine Qq rfl rfl rfl ?_; refine QV rfl rfl rfl (by with_reducible first | exact fTk0 | exact fTk1 | exact fTk2 | exact fWr0 | exact fWr1 | exact X0 | exact XK | exact Xl | exact fStm1 | exact fCn0 | exact fCn1 | exact fCn2 | exact fCn3 | exact fCs0 | exact fCs1) rfl ?_; refine QJ rfl rfl rfl rfl rfl (by with_reducible first | exact lInt | exact Q9 | exact Q6 | exact lRess) rfl ?_; refine Qk ieql rfl rfl rfl rfl ?_; refine QZ rfl rfl rfl rfl ?_; refine Qq rfl rfl rfl ?_; refine QV rfl rfl rfl (by with_reducible first | exact fTk0 | exact fTk1 | exact fTk2 | exact fWr0 | exact fWr1 | exact X0 | exact XK | exact Xl | exact fStm1 | exact fCn0 | exact fCn1 | exact fCn2 | exact fCn3 | exact fCs0 | exact fCs1) rfl ?_; refine QJ rfl rfl rfl rfl rfl (by with_reducible first | exact lInt | exact Q9 | exact Q6 | exact lRess) rfl ?_; refine Qk ieql rfl rfl rfl rfl ?_; refine QZ rfl rfl rfl rfl ?_; refine Qq rfl rfl rfl ?_; refine QV rfl rfl rfl (by with_reducible first | exact fTk0 | exact fTk1 | exact fTk2 | exact fWr0 | exact fWr1 | exact X0 | exact XK | exact Xl | exact fStm1 | exact fCn0 | exact fCn1 | exact fCn2 | exact fCn3 | exact fCs0 | exact fCs1) rfl ?_; refine QJ rfl rfl rfl rfl rfl (by with_reducible first | exact lInt | exact Q9 | exact Q6 | exact lRess) rfl ?_; refine Qk ieql rfl rfl rfl rfl ?_; refine QZ rfl rfl rfl rfl ?_; refine Qq rfl rfl rfl ?_; refine Qq rfl rfl rfl ?_; refine Qk ieql rfl rfl rfl rfl ?_; refine QZ rfl rfl rfl rfl ?_; refine Qq rfl rfl rfl ?_)
    refine Qa (n := 3) rfl rfl rfl rfl rfl (by with_reducible exact Zh) rfl ?_
    refine Qa (n := 3) rfl rfl rfl rfl rfl (by with_reducible exact Zh) rfl ?_
    refine QW goEqual hE1 rfl rfl rfl rfl ?_
    (refine QZ rfl rfl rfl rfl ?_; refine Qq rfl rfl rfl ?_)
    refine Qa (n := 3) rfl rfl rfl rfl rfl (by with_reducible exact Zh) rfl ?_
    refine Qa (n := 3) rfl rfl rfl rfl rfl (by with_reducible exact Zh) rfl ?_
    refine QW goEqual hE2 rfl rfl rfl rfl ?_
    (refine Qp rfl rfl rfl ?_; refine QZ rfl rfl rfl rfl ?_; refine Qv rfl rfl rfl ?_; refine Qj (hK _ _ (Qz (Q0 ?_))); clear hK K)
    refine QU [_] rfl (QQ rfl QX) rfl rfl
theorem repC_le (p : List (_root_.Fin 4294967296)) (w : Wr) : ∀ k, repC p w k ≤ k
  | 0 => Nat.le_refl _
  | k + 1 => by
    have := repC_le p w k
    show repC p w k + _ ≤ k + 1
    split <;> omega
theorem gorepeated : InGo Tryz.prog 15 := InGo.of Tryz.func15 rfl (by decide)
set_option maxHeartbeats 4000000 in
theorem repeated_ok (p : List (_root_.Fin 4294967296)) (q : Wr) (hl : p.length ≤ 100000) : Ok Tryz.prog 15 [adsC p, wrC q] (boolC (decide (1 < repC p q p.length))) := by
  refine Ok.enter Tryz.func15 rfl _ Tryz.ntmps15 rfl ?_
  intro S w
  refine Qw ?_
  refine Qx (fun K hK => ?_)
  refine Xk 0 rfl rfl rfl rfl rfl rfl rfl ?_
  (refine Qv rfl rfl rfl ?_; refine Qj (hK _ _ (Qz (Qw ?_))); clear hK K; refine Qx (fun K hK => ?_); refine Qv rfl rfl rfl ?_; refine Qj (hK _ _ (Qz (Qw (Qw ?_)))); clear hK K; refine Qx (fun K hK => ?_); refine Qv rfl rfl rfl ?_; refine Qj (hK _ _ (Qz (Q4 ?_))); clear hK K)
  refine Xz (α := Nat) (fun i => 1 ≤ i ∧ (i ≤ p.length ∨ i = 1))
    (fun i => [(0, .ct (adsC p)), (3, .own 0), (5, .ct (intC (repC p q i))), (6, .ct (intC i))]) (fun _ => [(0, .box 37 (wrCs q))]) (fun i => p.length - i) 1 ⟨Nat.le_refl _, .inr rfl⟩ (by exact Qu rfl ⟨rfl, rfl, rfl, rfl, trivial⟩) ?_
  intro i ⟨hi, hj⟩
  try dsimp only at hi hj ⊢
  (refine Qw (Qw (Qx fun K hK => ?_)); refine Qq rfl rfl rfl ?_; refine Qq rfl rfl rfl ?_; refine Qd rfl rfl (by with_reducible first | exact sTks.und | exact sWrs.und | exact sIks.und | exact sAdrs.und) (List.length_map ..) rfl ?_; refine Qk ilss rfl rfl rfl rfl ?_; refine Qj (hK _ _ (Qz ?_)); clear hK K)
  refine Q2 rfl (fun h => ?_) (fun h => ?_)
  · have e2 : (i : Int).toNat = i := Int.toNat_natCast i
    have e3 : ((i : Int) - 1).toNat = i - 1 := by omega
    have hs : repC p q (i + 1) = repC p q i + if repP p q i = true then 1 else 0 := rfl
    have hle := repC_le p q i
    generalize repC p q i = n at hs hle ⊢
    have hP : repP p q i = (decide (1 ≤ i) && (decide (p.getD (i - 1) 0 = q.1) && decide (p.getD i 0 = q.2))) := rfl
    generalize repP p q i = b at hs hP
    have ev : ∀ x y : _root_.Fin 4294967296, ((x.val : Int) = (y.val : Int)) ↔ x = y := fun x y => ⟨fun h => _root_.Fin.ext (by omega), fun h => by rw [h]⟩
    (refine Q1 (Qz (Qw (Q4 (Qw ?_)))))
    refine Xu (by with_reducible exact mixed) 17 (.p 0 (.p 1 (.p 2 (.p 3 (.p 5 (.f 4 (.f 6 (.p 7 (.p 8 (.p 9 (.p 10 (.p 11 (.p 13 (.f 12 (.f 14 (.p 15 (.p 16 .done))))))))))))))))) (by kernel_rfl) (fun K hK => ?_)
    (refine Qq rfl rfl rfl ?_; refine Qq rfl rfl rfl ?_; refine Qk (isub (by omega) (by omega)) rfl rfl rfl rfl ?_)
    refine Qg rfl rfl rfl (by with_reducible exact sAdrs) (by omega) (adrs_at (by omega) (by omega)) rfl ?_
    rw [e3]
    (refine QV rfl rfl rfl (by with_reducible first | exact fTk0 | exact fTk1 | exact fTk2 | exact fWr0 | exact fWr1 | exact X0 | exact XK | exact Xl | exact fStm1 | exact fCn0 | exact fCn1 | exact fCn2 | exact fCn3 | exact fCs0 | exact fCs1) rfl ?_)
    refine Xy rfl rfl rfl (by with_reducible exact Q9) rfl ?_
    (refine QJ rfl rfl rfl rfl rfl (by with_reducible first | exact lInt | exact Q9 | exact Q6 | exact lRess) rfl ?_; refine Qk ieql rfl rfl rfl rfl ?_; refine Qq rfl rfl rfl ?_)
    refine Q5 21 rfl (fun h1 => ?_) (fun h1 => ?_)
    · have h1 := (ev _ _).1 h1
      (refine Qq rfl rfl rfl ?_; refine Qq rfl rfl rfl ?_)
      refine Qg rfl rfl rfl (by with_reducible exact sAdrs) (by omega) (adrs_at (by omega) (by omega)) rfl ?_
      rw [e2]
      (refine QV rfl rfl rfl (by with_reducible first | exact fTk0 | exact fTk1 | exact fTk2 | exact fWr0 | exact fWr1 | exact X0 | exact XK | exact Xl | exact fStm1 | exact fCn0 | exact fCn1 | exact fCn2 | exact fCn3 | exact fCs0 | exact fCs1) rfl ?_)
      refine Xy rfl rfl rfl (by with_reducible exact Q9) rfl ?_
      (refine QJ rfl rfl rfl rfl rfl (by with_reducible first | exact lInt | exact Q9 | exact Q6 | exact lRess) rfl ?_; refine Qk ieql rfl rfl rfl rfl ?_; refine QZ rfl rfl rfl rfl ?_; refine Qj (hK _ _ (Qz ?_)); clear hK K)
      refine Q2 rfl (fun h2 => ?_) (fun h2 => ?_)
      · have h2 := (ev _ _).1 h2
        rw [decide_eq_true hi, decide_eq_true h1, decide_eq_true h2] at hP
        rw [hP, if_pos (by decide)] at hs
        (refine Qx (fun K hK => ?_); refine Qq rfl rfl rfl ?_; refine Qk (iadd (by omega) (by omega)) rfl rfl rfl rfl ?_; refine Qv rfl rfl rfl ?_; refine Qj (hK _ _ (Qz ?_)); clear hK K; refine Qx (fun K hK => ?_); refine Qq rfl rfl rfl ?_; refine Qk (iadd (by omega) (by omega)) rfl rfl rfl rfl ?_; refine Qv rfl rfl rfl ?_; refine Qj (hK _ _ (Q3 ?_)); clear hK K)
        refine Q7 (i + 1) (by omega) ⟨by omega, .inl (by omega)⟩ (by rw [hs]; exact Qu rfl ⟨rfl, rfl, by simp only [Int.natCast_add]; rfl, by simp only [Int.natCast_add]; rfl, trivial⟩)
      · rw [decide_eq_false (fun h => h2 ((ev _ _).2 h)), Bool.and_false, Bool.and_false] at hP
        rw [hP, if_neg (by decide), Nat.add_zero] at hs
        (refine Q1 (Qz (Qx fun K hK => ?_)); refine Qq rfl rfl rfl ?_; refine Qk (iadd (by omega) (by omega)) rfl rfl rfl rfl ?_; refine Qv rfl rfl rfl ?_; refine Qj (hK _ _ (Q3 ?_)); clear hK K)
        refine Q7 (i + 1) (by omega) ⟨by omega, .inl (by omega)⟩ (by rw [hs]; exact Qu rfl ⟨rfl, rfl, rfl, by simp only [Int.natCast_add]; rfl, trivial⟩)
    · rw [decide_eq_false (fun h => h1 ((ev _ _).2 h)), Bool.false_and, Bool.and_false] at hP
      rw [hP, if_neg (by decide), Nat.add_zero] at hs
      (refine Qy rfl rfl rfl ?_; refine Qy rfl rfl rfl ?_; refine Qy rfl rfl rfl ?_; refine Qy rfl rfl rfl ?_; refine Qy rfl rfl rfl ?_; refine Qy rfl rfl rfl ?_; refine Qy rfl rfl rfl ?_; refine QK rfl rfl rfl rfl ?_; refine Qj (hK _ _ (Qz (Xx rfl (Q1 (Qz ?_))))); clear hK K; refine Qx (fun K hK => ?_); refine Qq rfl rfl rfl ?_; refine Qk (iadd (by omega) (by omega)) rfl rfl rfl rfl ?_; refine Qv rfl rfl rfl ?_; refine Qj (hK _ _ (Q3 ?_)); clear hK K)
      refine Q7 (i + 1) (by omega) ⟨by omega, .inl (by omega)⟩ (by rw [hs]; exact Qu rfl ⟨rfl, rfl, rfl, by simp only [Int.natCast_add]; rfl, trivial⟩)
  · (refine Qn (Qz (Qw (Qx fun K hK => ?_))); refine Qq rfl rfl rfl ?_; refine Qk igtr rfl rfl rfl rfl ?_; refine Qv rfl rfl rfl ?_; refine Qj (hK _ _ (Qz (Q0 ?_))); clear hK K)
    have e : repC p q i = repC p q p.length := by
      rcases hj with hj | hj
      · rw [show i = p.length by omega]
      · subst hj
        have : p.length = 0 ∨ p.length = 1 := by omega
        rcases this with h0 | h0 <;> rw [h0] <;> rfl
    rw [← e]
    refine QU [_] rfl (QQ rfl QX) (by rw [show decide ((1 : Int) < (repC p q i : Int)) = decide (1 < repC p q i) from decide_eq_decide.2 (by omega)]; rfl) rfl
set_option maxHeartbeats 16000000 in
theorem LossNear_ok (bs : List Int) (hb : ∀ b ∈ bs, 0 ≤ b ∧ b < 256) : Ok Tryz.prog 4 [bytesC bs] (boolC true) := by
  refine Ok.enter Tryz.func4 rfl _ Tryz.ntmps4 rfl ?_
  intro S w
  have hB : Bytes (bs.take 400) := ⟨fun b h => (hb b (List.mem_of_mem_take h)).1, fun b h => (hb b (List.mem_of_mem_take h)).2, by simp; omega⟩
  have hRoll := Roll_ok bs
  generalize bs.take 400 = B0 at hB hRoll
  (refine Qw (Qx fun K hK => ?_); refine Qv rfl rfl rfl ?_; refine Qj (hK _ _ (Qz (Qw (Qw ?_)))); clear hK K; refine Qx (fun K hK => ?_))
  refine QW goawake awake_ok rfl rfl rfl rfl ?_
  (refine Qp rfl rfl rfl ?_; refine Qj (hK _ _ (Qz (Xx rfl (Q1 (Qz (Qw ?_)))))); clear hK K; refine Qx (fun K hK => ?_); refine Qq rfl rfl rfl ?_)
  refine Ops.callN 0 goRoll hRoll rfl rfl rfl rfl rfl rfl ?_
  (refine Qv rfl rfl rfl ?_; refine Qj (hK _ _ (Qz (Qw ?_))); clear hK K; refine Qx (fun K hK => ?_); refine Qq rfl rfl rfl ?_)
  refine Xw goOne (One_ok B0 0 24 true (by decide) (by decide) hB) rfl rfl rfl rfl rfl (fun q hx => ?_)
  obtain ⟨x, p1⟩ := q
  dsimp only at hx ⊢
  have hxl := hx.len
  (refine Qv rfl rfl rfl ?_; refine Qj (hK _ _ (Qz (Qw (Qw ?_)))); clear hK K; refine Qx (fun K hK => ?_); refine Qq rfl rfl rfl ?_; refine Qd rfl rfl (by with_reducible exact sRes.und) (List.length_map ..) rfl ?_; refine Qq rfl rfl rfl ?_; refine Qj (hK _ _ (Qz (Q4 ?_))); clear hK K)
  refine Xz (α := Nat) (fun i => i ≤ x.length) (fun i => [(4, .ct (rssC x)), (22, .ct (rssC x)), (23, .ct (intC x.length)), (24, .ct (intC i))]) (fun _ => [(0, .box 78 (codes B0 p1))]) (fun i => x.length - i) 0 (Nat.zero_le _) (by exact Qu rfl ⟨rfl, rfl, rfl, rfl, trivial⟩) ?_
  intro i hi
  try dsimp only at hi ⊢
  (refine Qw (Qx fun K hK => ?_); refine Qk ilss rfl rfl rfl rfl ?_; refine Qj (hK _ _ (Qz (Qw ?_))); clear hK K)
  refine Q2 rfl (fun h => ?_) (fun h => ?_)
  rotate_left
  · (refine Qn (Qz (Qw (Qx fun K hK => ?_))); refine Qv rfl rfl rfl ?_; refine Qj (hK _ _ (Qz (Q0 ?_))); clear hK K)
    refine QU [_] rfl (QQ rfl QX) rfl rfl
  have e2 : (i : Int).toNat = i := Int.toNat_natCast i
  (refine Q1 (Qz (Qw (Q4 (Qw (Qx fun K hK => ?_))))); refine Qg rfl rfl rfl (by with_reducible exact sRes) (by omega) (Xa (by omega) (by omega)) rfl ?_; refine XZ (n := 17) rfl rfl rfl (by with_reducible exact lRes) rfl rfl ?_; refine Qh 1 rfl rfl (by with_reducible exact zvRes) rfl rfl rfl ?_; refine Qe 17 rfl rfl rfl rfl rfl (by with_reducible exact szRes) rfl rfl ?_; refine Qj (hK _ _ (Qz (Qw ?_))); clear hK K; refine Qx (fun K hK => ?_); refine Qq rfl rfl rfl ?_; refine QV rfl rfl rfl (by with_reducible first | exact fS0 | exact fS1 | exact fS2 | exact fS3 | exact fS4 | exact fS5 | exact fS6 | exact fS7 | exact fS8 | exact fS9 | exact fS10 | exact fS11 | exact fN0 | exact fN1 | exact fN2 | exact fN3 | exact fN4 | exact fN5) rfl ?_; refine QJ rfl rfl rfl rfl rfl (by with_reducible first | exact lInt | exact Q9 | exact Q6 | exact lRess) rfl ?_)
  rw [e2]
  generalize x.getD i rs0 = r
  have hP := rPath_ok x r.fl (by omega)
  have hF := flow_ok hx r.fl
  have hnear := hF.near
  have hchk := hF.chk
  have hpl := pathF_len x r.fl
  have hol := List.length_filter_le (fun s : Rs => decide (s.fl = r.fl)) x
  generalize pathF x r.fl = p at hP hnear hpl
  refine Z2 4 gorPath hP rfl rfl rfl rfl rfl rfl ?_
  refine ZJ 4 _ rfl (adrs_frozen _ _) X7 ?_
  (refine Qv rfl rfl rfl ?_; refine Qj (hK _ _ (Qz (Qw ?_))); clear hK K; refine Qx (fun K hK => ?_); refine Qv rfl rfl rfl ?_; refine Qj (hK _ _ (Qz (Qw (Qw ?_)))); clear hK K; refine Qx (fun K hK => ?_); refine Qq rfl rfl rfl ?_; refine Qd rfl rfl (by with_reducible exact sRes.und) (List.length_map ..) rfl ?_; refine Qq rfl rfl rfl ?_; refine Qj (hK _ _ (Qz (Q4 ?_))); clear hK K)
  refine Xf 8 5 35 17 rfl rfl rfl ?_
  refine Xz (α := Nat) (fun j => j ≤ x.length) (fun j => [(4, .ct (rssC x)), (6, .own 1), (7, .ct (adsC p)), (8, .own 5), (22, .ct (rssC x)), (23, .ct (intC x.length)), (24, .ct (intC i)), (32, .ct (rssC x)), (33, .ct (intC x.length)), (34, .ct (intC j))])
    (fun j => [(5, .row 35 17 (rss ((x.take j).filter fun s => decide (s.fl = r.fl)))), (1, .box 35 (rsCs r)), (0, .box 78 (codes B0 p1))]) (fun j => x.length - j) 0 (Nat.zero_le _) (by exact Qu rfl ⟨rfl, rfl, rfl, rfl, rfl, rfl, rfl, rfl, rfl, rfl, trivial⟩) ?_
  intro j hj
  try dsimp only at hj ⊢
  (refine Qw (Qx fun K hK => ?_); refine Qk ilss rfl rfl rfl rfl ?_; refine Qj (hK _ _ (Qz (Qw ?_))); clear hK K)
  refine Q2 rfl (fun h2 => ?_) (fun h2 => ?_)
  · have e3 : (j : Int).toNat = j := Int.toNat_natCast j
    have hs := Zo (fun s : Rs => decide (s.fl = r.fl)) (z := rs0) (i := j) (l := x) (by omega)
    have hfl := Yu (fun s : Rs => decide (s.fl = r.fl)) x j
    (refine Q1 (Qz (Qw (Q4 (Qw (Qx fun K hK => ?_))))); refine Qg rfl rfl rfl (by with_reducible exact sRes) (by omega) (Xa (by omega) (by omega)) rfl ?_; refine XZ (n := 17) rfl rfl rfl (by with_reducible exact lRes) rfl rfl ?_; refine Qh 2 rfl rfl (by with_reducible exact zvRes) rfl rfl rfl ?_; refine Qe 17 rfl rfl rfl rfl rfl (by with_reducible exact szRes) rfl rfl ?_; refine Qj (hK _ _ (Qz (Qw ?_))); clear hK K; refine Qx (fun K hK => ?_); refine QV rfl rfl rfl (by with_reducible first | exact fS0 | exact fS1 | exact fS2 | exact fS3 | exact fS4 | exact fS5 | exact fS6 | exact fS7 | exact fS8 | exact fS9 | exact fS10 | exact fS11 | exact fN0 | exact fN1 | exact fN2 | exact fN3 | exact fN4 | exact fN5) rfl ?_; refine QJ rfl rfl rfl rfl rfl (by with_reducible first | exact lInt | exact Q9 | exact Q6 | exact lRess) rfl ?_; refine QV rfl rfl rfl (by with_reducible first | exact fS0 | exact fS1 | exact fS2 | exact fS3 | exact fS4 | exact fS5 | exact fS6 | exact fS7 | exact fS8 | exact fS9 | exact fS10 | exact fS11 | exact fN0 | exact fN1 | exact fN2 | exact fN3 | exact fN4 | exact fN5) rfl ?_; refine QJ rfl rfl rfl rfl rfl (by with_reducible first | exact lInt | exact Q9 | exact Q6 | exact lRess) rfl ?_; refine Qk ieql rfl rfl rfl rfl ?_; refine Qj (hK _ _ (Qz ?_)); clear hK K)
    rw [e3]
    generalize x.getD j rs0 = c at hs
    generalize (x.take j).filter (fun s : Rs => decide (s.fl = r.fl)) = out at hs hfl ⊢
    refine Q2 rfl (fun h3 => ?_) (fun h3 => ?_)
    · rw [if_pos (decide_eq_true h3)] at hs
      (refine Qx (fun K hK => ?_); refine Qq rfl rfl rfl ?_; refine Qa (n := 17) rfl rfl rfl rfl rfl (by with_reducible exact lRes) rfl ?_)
      refine X6 (n := 17) rfl rfl (by with_reducible exact sRes) rfl rfl (by decide) rfl ?_
      refine Qs out.length (rss (out ++ [c])) rfl rfl rfl rfl (by with_reducible exact sRes) (X1 out) rfl (by omega) (by omega) (ZK out c) rfl ?_
      (refine Qv rfl rfl rfl ?_; refine Qj (hK _ _ (Qz ?_)); clear hK K; refine Qx (fun K hK => ?_); refine Qk (iadd (by omega) (by omega)) rfl rfl rfl rfl ?_; refine Qq rfl rfl rfl ?_; refine Qj (hK _ _ (Q3 ?_)); clear hK K)
      refine Qm 2 ?_
      refine Q7 (j + 1) (by omega) (by omega) (by rw [hs]; exact Qu rfl ⟨rfl, rfl, rfl, rfl, rfl, rfl, rfl, rfl, rfl, by simp only [Int.natCast_add]; rfl, trivial⟩)
    · rw [if_neg (by rw [decide_eq_false h3]; decide)] at hs
      (refine Q1 (Qz (Qx fun K hK => ?_)); refine Qk (iadd (by omega) (by omega)) rfl rfl rfl rfl ?_; refine Qq rfl rfl rfl ?_; refine Qj (hK _ _ (Q3 ?_)); clear hK K)
      refine Qm 2 ?_
      refine Q7 (j + 1) (by omega) (by omega) (by rw [hs]; exact Qu rfl ⟨rfl, rfl, rfl, rfl, rfl, rfl, rfl, rfl, rfl, by simp only [Int.natCast_add]; rfl, trivial⟩)
  have hj' : j = x.length := by omega
  rw [hj', List.take_length]
  generalize x.filter (fun s : Rs => decide (s.fl = r.fl)) = own at hnear hchk hol
  (refine Qn (Qz (Qw (Qx fun K hK => ?_))); refine Qv rfl rfl rfl ?_; refine Qj (hK _ _ (Qz (Qw ?_))); clear hK K; refine Qx (fun K hK => ?_); refine Qq rfl rfl rfl ?_; refine Qd rfl rfl (by with_reducible first | exact sTks.und | exact sWrs.und | exact sIks.und | exact sAdrs.und) (List.length_map ..) rfl ?_; refine Qq rfl rfl rfl ?_; refine Qj (hK _ _ (Qz (Q4 ?_))); clear hK K)
  refine Yq 5 _ rfl (Zz _ _) X7 ?_
  refine Xz (α := Nat × Int) (fun q => q.1 ≤ p.length ∧ ((q.1 = 0 ∧ q.2 = -1) ∨ (1 ≤ q.1 ∧ p.getD (q.1 - 1) 0 ≠ 0 ∧ (q.1 - 1 = 0 ∨ p.getD (q.1 - 1 - 1) 0 ≠ 0) ∧ q.2 = (cntF own (pvF 0 p (q.1 - 1), p.getD (q.1 - 1) 0) 0).1.se)))
    (fun q => [(4, .ct (rssC x)), (6, .own 1), (7, .ct (adsC p)), (8, .ct (rssC own)), (11, .ct (intC q.2)), (22, .ct (rssC x)), (23, .ct (intC x.length)), (24, .ct (intC i)), (48, .ct (adsC p)), (49, .ct (intC p.length)), (50, .ct (intC q.1))]) (fun _ => [(1, .box 35 (rsCs r)), (0, .box 78 (codes B0 p1))]) (fun q => p.length - q.1) (0, -1) ⟨Nat.zero_le _, .inl ⟨rfl, rfl⟩⟩ (by exact Qu rfl ⟨rfl, rfl, rfl, rfl, rfl, rfl, rfl, rfl, rfl, rfl, rfl, trivial⟩) ?_
  intro ⟨k, la⟩ ⟨hk, hla⟩
  try dsimp only at hk hla ⊢
  (refine Qw (Qx fun K hK => ?_); refine Qk ilss rfl rfl rfl rfl ?_; refine Qj (hK _ _ (Qz (Qw ?_))); clear hK K)
  refine Q2 rfl (fun h3 => ?_) (fun h3 => ?_)
  rotate_left
  · (refine Qn (Qz (Qx fun K hK => ?_)); refine Qk (iadd (by omega) (by omega)) rfl rfl rfl rfl ?_; refine Qq rfl rfl rfl ?_; refine Qj (hK _ _ (Q3 ?_)); clear hK K)
    refine Qm 1 ?_
    refine Q7 (i + 1) (by omega) (by omega) (by exact Qu rfl ⟨rfl, rfl, rfl, by simp only [Int.natCast_add]; rfl, trivial⟩)
  have e5 : (k : Int).toNat = k := Int.toNat_natCast k
  (refine Q1 (Qz (Qw (Q4 (Qw (Qx fun K hK => ?_))))); refine Qq rfl rfl rfl ?_; refine Qv rfl rfl rfl ?_; refine Qj (hK _ _ (Qz (Qw ?_))); clear hK K; refine Qx (fun K hK => ?_); refine Qq rfl rfl rfl ?_; refine Qq rfl rfl rfl ?_)
  refine Qg rfl rfl rfl (by with_reducible exact sAdrs) (by omega) (adrs_at (by omega) (by omega)) rfl ?_
  rw [e5]
  refine Xy rfl rfl rfl (by with_reducible exact Q9) rfl ?_
  refine Xq rfl (by with_reducible exact bWire) rfl (.one rfl rfl rfl rfl .nil) rfl ?_
  refine Qh 3 rfl rfl (by with_reducible exact zvWire) rfl rfl rfl ?_
  refine Qe 2 rfl rfl rfl rfl rfl (by with_reducible exact szWire) rfl rfl ?_
  (refine Qj (hK _ _ (Qz (Qw (Qw ?_)))); clear hK K; refine Qx (fun K hK => ?_); refine Qq rfl rfl rfl ?_; refine Qk igtr rfl rfl rfl rfl ?_; refine Qj (hK _ _ (Qz ?_)); clear hK K)
  refine ZV (α := Unit) (fun _ => True) (fun _ => [(4, .ct (rssC x)), (6, .own 1), (7, .ct (adsC p)), (8, .ct (rssC own)), (11, .ct (intC la)), (22, .ct (rssC x)), (23, .ct (intC x.length)), (24, .ct (intC i)), (48, .ct (adsC p)), (49, .ct (intC p.length)), (50, .ct (intC k)), (12, .ct (intC k)), (13, .own 3)]) (fun _ => [(3, .box 37 (wrCs (pvF 0 p k, p.getD k 0))), (1, .box 35 (rsCs r)), (0, .box 78 (codes B0 p1))]) (fun _ _ => ?_) (fun KN hM => ?_)
  rotate_left
  · refine Q2 rfl (fun g => ?_) (fun g => ?_)
    · have e6 : ((k : Int) - 1).toNat = k - 1 := by omega
      have e7 : pvF 0 p k = p.getD (k - 1) 0 := if_neg (by omega)
      rw [e7] at hM
      (refine Qx (fun K hK => ?_); refine Qq rfl rfl rfl ?_; refine Qq rfl rfl rfl ?_; refine Qk (isub (by omega) (by omega)) rfl rfl rfl rfl ?_)
      refine Qg rfl rfl rfl (by with_reducible exact sAdrs) (by omega) (adrs_at (by omega) (by omega)) rfl ?_
      rw [e6]
      refine Xy rfl rfl rfl (by with_reducible exact Q9) rfl ?_
      (refine QV rfl rfl rfl (by with_reducible first | exact fTk0 | exact fTk1 | exact fTk2 | exact fWr0 | exact fWr1 | exact X0 | exact XK | exact Xl | exact fStm1 | exact fCn0 | exact fCn1 | exact fCn2 | exact fCn3 | exact fCs0 | exact fCs1) rfl ?_; refine Xh rfl rfl rfl rfl rfl (by with_reducible first | exact zInt | exact zAddr | exact zClaims) (Nat.le_of_ble_eq_true rfl) ?_; refine Qj (hK _ _ ?_); clear hK K)
      exact Qt hM () trivial (Qu rfl ⟨rfl, rfl, rfl, rfl, rfl, rfl, rfl, rfl, rfl, rfl, rfl, rfl, rfl, trivial⟩)
    · have e7 : pvF 0 p k = 0 := if_pos (by omega)
      rw [e7] at hM
      (refine Q1 ?_)
      exact Qt hM () trivial (Qu rfl ⟨rfl, rfl, rfl, rfl, rfl, rfl, rfl, rfl, rfl, rfl, rfl, rfl, rfl, trivial⟩)
  have ez : ∀ y : _root_.Fin 4294967296, ((y.val : Int) = 0) ↔ y = 0 := fun y => ⟨fun h => _root_.Fin.ext (by have e0 : ((0 : _root_.Fin 4294967296).val) = 0 := rfl; omega), fun h => by rw [h]; rfl⟩
  have hR := repeated_ok p (pvF 0 p k, p.getD k 0) (by omega)
  have hC := Count_ok own (by omega) (pvF 0 p k, p.getD k 0) 0
  have hce := (cnt_se hchk (pvF 0 p k, p.getD k 0)).1
  have hne : ∀ (a1 : p.getD k 0 ≠ 0) (a2 : k = 0 ∨ pvF 0 p k ≠ 0) (a3 : ¬ 1 < repC p (pvF 0 p k, p.getD k 0) p.length), 0 ≤ la → (cntF own (pvF 0 p k, p.getD k 0) 0).1.se ≤ la := fun a1 a2 a3 a4 => by
    rcases hla with hla | ⟨b1, b2, b3, b4⟩
    · omega
    · obtain ⟨k', rfl⟩ : ∃ k', k = k' + 1 := ⟨k - 1, by omega⟩
      have e8 : pvF 0 p (k' + 1) = p.getD k' 0 := rfl
      rw [e8] at a3 ⊢
      rw [b4]
      exact hnear k' (by omega) b2 b3 a3
  have hnx : p.getD k 0 ≠ 0 → (k = 0 ∨ pvF 0 p k ≠ 0) → 1 ≤ k + 1 ∧ p.getD (k + 1 - 1) 0 ≠ 0 ∧ (k + 1 - 1 = 0 ∨ p.getD (k + 1 - 1 - 1) 0 ≠ 0) ∧ (cntF own (pvF 0 p k, p.getD k 0) 0).1.se = (cntF own (pvF 0 p (k + 1 - 1), p.getD (k + 1 - 1) 0) 0).1.se := fun a1 a2 => by
    refine ⟨by omega, a1, ?_, rfl⟩
    rcases a2 with a2 | a2
    · exact .inl a2
    · by_cases hk0 : k = 0
      · exact .inl hk0
      · exact .inr (by have : pvF 0 p k = p.getD (k - 1) 0 := if_neg hk0; rw [this] at a2; exact a2)
  refine Qw ?_
  refine St.cutE (α := Unit) (fun _ => p.getD k 0 ≠ 0 ∧ (k = 0 ∨ pvF 0 p k ≠ 0) ∧ ¬ 1 < repC p (pvF 0 p k, p.getD k 0) p.length) (fun _ => [(4, .ct (rssC x)), (6, .own 1), (7, .ct (adsC p)), (8, .ct (rssC own)), (11, .ct (intC la)), (22, .ct (rssC x)), (23, .ct (intC x.length)), (24, .ct (intC i)), (48, .ct (adsC p)), (49, .ct (intC p.length)), (50, .ct (intC k)), (12, .ct (intC k)), (13, .own 3)]) (fun _ => [(3, .box 37 (wrCs (pvF 0 p k, p.getD k 0))), (1, .box 35 (rsCs r)), (0, .box 78 (codes B0 p1))]) (fun _ ha => ?_) (fun KN hM hE => ?_)
  rotate_left
  · (refine Qw (Qx fun K hK => ?_); refine QV rfl rfl rfl (by with_reducible first | exact fTk0 | exact fTk1 | exact fTk2 | exact fWr0 | exact fWr1 | exact X0 | exact XK | exact Xl | exact fStm1 | exact fCn0 | exact fCn1 | exact fCn2 | exact fCn3 | exact fCs0 | exact fCs1) rfl ?_; refine QJ rfl rfl rfl rfl rfl (by with_reducible first | exact lInt | exact Q9 | exact Q6 | exact lRess) rfl ?_; refine Qk ieql rfl rfl rfl rfl ?_; refine Qq rfl rfl rfl ?_)
    refine Q5 69 rfl (fun g1 => ?_) (fun g1 => ?_)
    · (refine Qy rfl rfl rfl ?_; refine Qy rfl rfl rfl ?_; refine Qy rfl rfl rfl ?_; refine Qy rfl rfl rfl ?_; refine Qy rfl rfl rfl ?_; refine Qy rfl rfl rfl ?_; refine Qy rfl rfl rfl ?_; refine QZ rfl rfl rfl rfl ?_; refine Qq rfl rfl rfl ?_; refine Qy rfl rfl rfl ?_; refine Qy rfl rfl rfl ?_; refine Qy rfl rfl rfl ?_; refine QZ rfl rfl rfl rfl ?_; refine Qj (hK _ _ (Qz (Qo rfl (Qn ?_)))); clear hK K)
      refine Fin.up (hE 4) ?_
      (refine Qz (Qx fun K hK => ?_); refine Qk (iadd (by omega) (by omega)) rfl rfl rfl rfl ?_; refine Qq rfl rfl rfl ?_; refine Qj (hK _ _ (Q3 ?_)); clear hK K)
      refine Qm 3 ?_
      refine Qm 1 ?_
      refine Q7 (i + 1) (by omega) (by omega) (by exact Qu rfl ⟨rfl, rfl, rfl, by simp only [Int.natCast_add]; rfl, trivial⟩)
    have g1 : p.getD k 0 ≠ 0 := fun h => g1 ((ez _).2 h)
    (refine Qq rfl rfl rfl ?_; refine Qk igtr rfl rfl rfl rfl ?_; refine Qq rfl rfl rfl ?_)
    refine Q5 72 rfl (fun g2 => ?_) (fun g2 => ?_)
    · (refine QV rfl rfl rfl (by with_reducible first | exact fTk0 | exact fTk1 | exact fTk2 | exact fWr0 | exact fWr1 | exact X0 | exact XK | exact Xl | exact fStm1 | exact fCn0 | exact fCn1 | exact fCn2 | exact fCn3 | exact fCs0 | exact fCs1) rfl ?_; refine QJ rfl rfl rfl rfl rfl (by with_reducible first | exact lInt | exact Q9 | exact Q6 | exact lRess) rfl ?_; refine Qk ieql rfl rfl rfl rfl ?_; refine QZ rfl rfl rfl rfl ?_; refine QK rfl rfl rfl rfl ?_; refine Qq rfl rfl rfl ?_)
      refine Q5 78 rfl (fun g3 => ?_) (fun g3 => ?_)
      · (refine Qy rfl rfl rfl ?_; refine Qy rfl rfl rfl ?_; refine Qy rfl rfl rfl ?_; refine QZ rfl rfl rfl rfl ?_; refine Qj (hK _ _ (Qz (Qo rfl (Qn ?_)))); clear hK K)
        refine Fin.up (hE 4) ?_
        (refine Qz (Qx fun K hK => ?_); refine Qk (iadd (by omega) (by omega)) rfl rfl rfl rfl ?_; refine Qq rfl rfl rfl ?_; refine Qj (hK _ _ (Q3 ?_)); clear hK K)
        refine Qm 3 ?_
        refine Qm 1 ?_
        refine Q7 (i + 1) (by omega) (by omega) (by exact Qu rfl ⟨rfl, rfl, rfl, by simp only [Int.natCast_add]; rfl, trivial⟩)
      have g3 : pvF 0 p k ≠ 0 := fun h => g3 ((ez _).2 h)
      (refine Qq rfl rfl rfl ?_; refine Qa (n := 2) rfl rfl rfl rfl rfl (by with_reducible first | exact lTrav | exact lWire | exact lCs) rfl ?_)
      refine QW gorepeated hR rfl rfl rfl rfl ?_
      (refine QK rfl rfl rfl rfl ?_; refine Qj (hK _ _ (Qz ?_)); clear hK K)
      refine Q2 rfl (fun g4 => ?_) (fun g4 => ?_)
      · (refine Qn ?_)
        refine Fin.up (hE 4) ?_
        (refine Qz (Qx fun K hK => ?_); refine Qk (iadd (by omega) (by omega)) rfl rfl rfl rfl ?_; refine Qq rfl rfl rfl ?_; refine Qj (hK _ _ (Q3 ?_)); clear hK K)
        refine Qm 3 ?_
        refine Qm 1 ?_
        refine Q7 (i + 1) (by omega) (by omega) (by exact Qu rfl ⟨rfl, rfl, rfl, by simp only [Int.natCast_add]; rfl, trivial⟩)
      · (refine Q1 ?_)
        exact Qt hM () ⟨g1, .inr g3, g4⟩ (Qu rfl ⟨rfl, rfl, rfl, rfl, rfl, rfl, rfl, rfl, rfl, rfl, rfl, rfl, rfl, trivial⟩)
    · (refine Qy rfl rfl rfl ?_; refine Qy rfl rfl rfl ?_; refine Qy rfl rfl rfl ?_; refine QK rfl rfl rfl rfl ?_; refine QK rfl rfl rfl rfl ?_; refine Qq rfl rfl rfl ?_; refine Qq rfl rfl rfl ?_; refine Qa (n := 2) rfl rfl rfl rfl rfl (by with_reducible first | exact lTrav | exact lWire | exact lCs) rfl ?_)
      refine QW gorepeated hR rfl rfl rfl rfl ?_
      (refine QK rfl rfl rfl rfl ?_; refine Qj (hK _ _ (Qz ?_)); clear hK K)
      refine Q2 rfl (fun g4 => ?_) (fun g4 => ?_)
      · (refine Qn ?_)
        refine Fin.up (hE 4) ?_
        (refine Qz (Qx fun K hK => ?_); refine Qk (iadd (by omega) (by omega)) rfl rfl rfl rfl ?_; refine Qq rfl rfl rfl ?_; refine Qj (hK _ _ (Q3 ?_)); clear hK K)
        refine Qm 3 ?_
        refine Qm 1 ?_
        refine Q7 (i + 1) (by omega) (by omega) (by exact Qu rfl ⟨rfl, rfl, rfl, by simp only [Int.natCast_add]; rfl, trivial⟩)
      · (refine Q1 ?_)
        exact Qt hM () ⟨g1, .inl (by omega), g4⟩ (Qu rfl ⟨rfl, rfl, rfl, rfl, rfl, rfl, rfl, rfl, rfl, rfl, rfl, rfl, rfl, trivial⟩)
  have hne := hne ha.1 ha.2.1 ha.2.2
  have hnx := hnx ha.1 ha.2.1
  generalize hcn : cntF own (pvF 0 p k, p.getD k 0) 0 = cn at *
  obtain ⟨c, ec⟩ := cn
  dsimp only at hC hce hne hnx
  (refine Qw (Qx fun K hK => ?_); refine Qq rfl rfl rfl ?_; refine Qa (n := 2) rfl rfl rfl rfl rfl (by with_reducible first | exact lTrav | exact lWire | exact lCs) rfl ?_)
  refine QW goCount hC rfl rfl rfl rfl ?_
  (refine Qq rfl rfl rfl ?_; refine Qf rfl rfl rfl rfl ?_; refine Qf rfl rfl rfl rfl ?_; refine Qh 2 rfl rfl (by with_reducible first | exact zvStm | exact zvCn) rfl rfl rfl ?_; refine Qe 5 rfl rfl rfl rfl rfl (by with_reducible exact szCn) rfl rfl ?_; refine Qv rfl rfl rfl ?_; refine Qj (hK _ _ (Qz (Qw (Qw ?_)))); clear hK K; refine Qx (fun K hK => ?_); refine Qq rfl rfl rfl ?_; refine Qk ineq rfl rfl rfl rfl ?_; refine Qq rfl rfl rfl ?_)
  refine Q5 91 rfl (fun g5 => ?_) (fun g5 => ?_)
  · (refine Qq rfl rfl rfl ?_; refine Qk ineq rfl rfl rfl rfl ?_; refine QZ rfl rfl rfl rfl ?_; refine Qq rfl rfl rfl ?_)
    refine Q5 95 rfl (fun g6 => absurd g6 (by omega)) (fun g6 => ?_)
    (refine Qq rfl rfl rfl ?_; refine Qk igeq rfl rfl rfl rfl ?_; refine Qq rfl rfl rfl ?_)
    refine Q5 98 rfl (fun g7 => ?_) (fun g7 => ?_)
    · (refine QV rfl rfl rfl (by with_reducible first | exact fTk0 | exact fTk1 | exact fTk2 | exact fWr0 | exact fWr1 | exact X0 | exact XK | exact Xl | exact fStm1 | exact fCn0 | exact fCn1 | exact fCn2 | exact fCn3 | exact fCs0 | exact fCs1) rfl ?_; refine QJ rfl rfl rfl rfl rfl (by with_reducible first | exact lInt | exact Q9 | exact Q6 | exact lRess) rfl ?_; refine Qq rfl rfl rfl ?_; refine Qk igtr rfl rfl rfl rfl ?_; refine QZ rfl rfl rfl rfl ?_; refine QK rfl rfl rfl rfl ?_; refine Qj (hK _ _ (Qz ?_)); clear hK K)
      refine Q2 rfl (fun g8 => absurd g8 (by have := hne g7; omega)) (fun g8 => ?_)
      (refine Q1 (Qz (Qx fun K hK => ?_)); refine QV rfl rfl rfl (by with_reducible first | exact fTk0 | exact fTk1 | exact fTk2 | exact fWr0 | exact fWr1 | exact X0 | exact XK | exact Xl | exact fStm1 | exact fCn0 | exact fCn1 | exact fCn2 | exact fCn3 | exact fCs0 | exact fCs1) rfl ?_; refine QJ rfl rfl rfl rfl rfl (by with_reducible first | exact lInt | exact Q9 | exact Q6 | exact lRess) rfl ?_; refine Qv rfl rfl rfl ?_; refine Qj (hK _ _ (Qz ?_)); clear hK K; refine Qx (fun K hK => ?_); refine Qk (iadd (by omega) (by omega)) rfl rfl rfl rfl ?_; refine Qq rfl rfl rfl ?_; refine Qj (hK _ _ (Q3 ?_)); clear hK K)
      refine Qm 2 ?_
      refine Qm 3 ?_
      refine Q7 (k + 1, c.se) (by dsimp only; omega) ⟨by dsimp only; omega, .inr hnx⟩ (by exact Qu rfl ⟨rfl, rfl, rfl, rfl, rfl, rfl, rfl, rfl, rfl, rfl, by simp only [Int.natCast_add]; rfl, trivial⟩)
    · (refine Qy rfl rfl rfl ?_; refine Qy rfl rfl rfl ?_; refine Qy rfl rfl rfl ?_; refine Qy rfl rfl rfl ?_; refine QK rfl rfl rfl rfl ?_; refine QK rfl rfl rfl rfl ?_; refine Qj (hK _ _ (Qz (Xx rfl (Q1 (Qz ?_))))); clear hK K; refine Qx (fun K hK => ?_); refine QV rfl rfl rfl (by with_reducible first | exact fTk0 | exact fTk1 | exact fTk2 | exact fWr0 | exact fWr1 | exact X0 | exact XK | exact Xl | exact fStm1 | exact fCn0 | exact fCn1 | exact fCn2 | exact fCn3 | exact fCs0 | exact fCs1) rfl ?_; refine QJ rfl rfl rfl rfl rfl (by with_reducible first | exact lInt | exact Q9 | exact Q6 | exact lRess) rfl ?_; refine Qv rfl rfl rfl ?_; refine Qj (hK _ _ (Qz ?_)); clear hK K; refine Qx (fun K hK => ?_); refine Qk (iadd (by omega) (by omega)) rfl rfl rfl rfl ?_; refine Qq rfl rfl rfl ?_; refine Qj (hK _ _ (Q3 ?_)); clear hK K)
      refine Qm 2 ?_
      refine Qm 3 ?_
      refine Q7 (k + 1, c.se) (by dsimp only; omega) ⟨by dsimp only; omega, .inr hnx⟩ (by exact Qu rfl ⟨rfl, rfl, rfl, rfl, rfl, rfl, rfl, rfl, rfl, rfl, by simp only [Int.natCast_add]; rfl, trivial⟩)
  · (refine Qy rfl rfl rfl ?_; refine Qy rfl rfl rfl ?_; refine QK rfl rfl rfl rfl ?_; refine Qq rfl rfl rfl ?_; refine Qq rfl rfl rfl ?_; refine Qk igeq rfl rfl rfl rfl ?_; refine Qq rfl rfl rfl ?_)
    refine Q5 98 rfl (fun g7 => ?_) (fun g7 => ?_)
    · (refine QV rfl rfl rfl (by with_reducible first | exact fTk0 | exact fTk1 | exact fTk2 | exact fWr0 | exact fWr1 | exact X0 | exact XK | exact Xl | exact fStm1 | exact fCn0 | exact fCn1 | exact fCn2 | exact fCn3 | exact fCs0 | exact fCs1) rfl ?_; refine QJ rfl rfl rfl rfl rfl (by with_reducible first | exact lInt | exact Q9 | exact Q6 | exact lRess) rfl ?_; refine Qq rfl rfl rfl ?_; refine Qk igtr rfl rfl rfl rfl ?_; refine QZ rfl rfl rfl rfl ?_; refine QK rfl rfl rfl rfl ?_; refine Qj (hK _ _ (Qz ?_)); clear hK K)
      refine Q2 rfl (fun g8 => absurd g8 (by have := hne g7; omega)) (fun g8 => ?_)
      (refine Q1 (Qz (Qx fun K hK => ?_)); refine QV rfl rfl rfl (by with_reducible first | exact fTk0 | exact fTk1 | exact fTk2 | exact fWr0 | exact fWr1 | exact X0 | exact XK | exact Xl | exact fStm1 | exact fCn0 | exact fCn1 | exact fCn2 | exact fCn3 | exact fCs0 | exact fCs1) rfl ?_; refine QJ rfl rfl rfl rfl rfl (by with_reducible first | exact lInt | exact Q9 | exact Q6 | exact lRess) rfl ?_; refine Qv rfl rfl rfl ?_; refine Qj (hK _ _ (Qz ?_)); clear hK K; refine Qx (fun K hK => ?_); refine Qk (iadd (by omega) (by omega)) rfl rfl rfl rfl ?_; refine Qq rfl rfl rfl ?_; refine Qj (hK _ _ (Q3 ?_)); clear hK K)
      refine Qm 2 ?_
      refine Qm 3 ?_
      refine Q7 (k + 1, c.se) (by dsimp only; omega) ⟨by dsimp only; omega, .inr hnx⟩ (by exact Qu rfl ⟨rfl, rfl, rfl, rfl, rfl, rfl, rfl, rfl, rfl, rfl, by simp only [Int.natCast_add]; rfl, trivial⟩)
    · (refine Qy rfl rfl rfl ?_; refine Qy rfl rfl rfl ?_; refine Qy rfl rfl rfl ?_; refine Qy rfl rfl rfl ?_; refine QK rfl rfl rfl rfl ?_; refine QK rfl rfl rfl rfl ?_; refine Qj (hK _ _ (Qz (Xx rfl (Q1 (Qz ?_))))); clear hK K; refine Qx (fun K hK => ?_); refine QV rfl rfl rfl (by with_reducible first | exact fTk0 | exact fTk1 | exact fTk2 | exact fWr0 | exact fWr1 | exact X0 | exact XK | exact Xl | exact fStm1 | exact fCn0 | exact fCn1 | exact fCn2 | exact fCn3 | exact fCs0 | exact fCs1) rfl ?_; refine QJ rfl rfl rfl rfl rfl (by with_reducible first | exact lInt | exact Q9 | exact Q6 | exact lRess) rfl ?_; refine Qv rfl rfl rfl ?_; refine Qj (hK _ _ (Qz ?_)); clear hK K; refine Qx (fun K hK => ?_); refine Qk (iadd (by omega) (by omega)) rfl rfl rfl rfl ?_; refine Qq rfl rfl rfl ?_; refine Qj (hK _ _ (Q3 ?_)); clear hK K)
      refine Qm 2 ?_
      refine Qm 3 ?_
      refine Q7 (k + 1, c.se) (by dsimp only; omega) ⟨by dsimp only; omega, .inr hnx⟩ (by exact Qu rfl ⟨rfl, rfl, rfl, rfl, rfl, rfl, rfl, rfl, rfl, rfl, by simp only [Int.natCast_add]; rfl, trivial⟩)
end Go.Proofs.YtlkdkbdgnjcopaaGreat
namespace Go.Proofs.YtlkdkbdgnjcopaaGreat.lossNear
open Go.ChangeShapes Go.WideShapes Go.ChangeAt Go.RowKit
open Go.ChangeMaps (open_string shut_string)
set_option linter.unusedVariables false
theorem own : ownKnob Tryz.prog.godebug = none := by kernel_rfl
theorem laidOut : laidOutB Tryz.prog = true := by kernel_rfl
def IsRow (k : IntKind) (w : World) (a : Option Addr) (len cap : Nat) (zs : List Int) : Prop :=
  (a = none ∧ len = 0 ∧ cap = 0 ∧ zs = []) ∨
  ∃ x, a = some x ∧ len ≤ cap ∧ cap ≤ maxLen ∧ zs.length = cap ∧ (∀ i, i < zs.length → w.cell? (x.add i) = some (.int k (zs.getD i 0))) ∧ ∀ n ∈ zs, (Lit.int k n).wf = true
open Go.Own in
theorem bytes_in {w : World} {a : Option Addr} {len cap : Nat} {zs : List Int} (h : IsRow .u8 w a len cap zs) : (bytesC (zs.take len)).p (fun _ => True) w (.slice a len cap) := by
  rcases h with ⟨rfl, rfl, rfl, rfl⟩ | ⟨x, rfl, hl, hm, hz, hc, _⟩
  · exact nil_is 1 _ w
  · have hlen : (zs.take len).length = len := by rw [List.length_take]; omega
    refine ⟨some x, cap, by rw [List.length_map, hlen], by rw [List.length_map, hlen]; exact hl, hm, fun e he => by obtain ⟨b, _, rfl⟩ := List.mem_map.1 he; rfl, fun hne => ?_⟩
    have hpos : 0 < len := by
      rcases Nat.eq_zero_or_pos len with h0 | h0
      · subst h0; exact absurd rfl hne
      · exact h0
    have h0 := hc 0 (by omega)
    obtain ⟨b, o, sp⟩ := x
    have hsp : sp = none ∧ b < w.heap.size := by
      simp only [Addr.add, if_true, World.cell?] at h0
      cases e : w.heap[b]? with
      | none => rw [e] at h0; cases h0
      | some ob =>
        rw [e] at h0
        cases ob with
        | cells c t r =>
          refine ⟨?_, ZZ e⟩
          cases sp with
          | none => rfl
          | some q => simp at h0
        | _ => cases h0
    obtain ⟨rfl, hb⟩ := hsp
    refine ⟨b, o, rfl, trivial, hb, (zs.take len).map (Value.int .u8), ?_, fun i u hu => ?_⟩
    · rw [flat_one (fun b => CT.ex (Value.int .u8 b))]
      have key : ∀ l : List Int, cells (fun _ => True) w (l.map fun b => CT.ex (Value.int .u8 b)) (l.map (Value.int .u8)) := fun l => by
        induction l with
        | nil => trivial
        | cons y l ih => exact ⟨rfl, ih⟩
      exact key _
    · rw [List.getElem?_map] at hu
      cases e : (zs.take len)[i]? with
      | none => rw [e] at hu; cases hu
      | some n =>
        rw [e] at hu
        injection hu with hu
        have hi : i < (zs.take len).length := (List.getElem?_eq_some_iff.1 e).1
        have h1 := hc i (by omega)
        have h2 : zs.getD i 0 = n := by
          rw [List.getElem?_take, if_pos (by omega)] at e
          rw [List.getD_eq_getElem?_getD, e]; rfl
        have h3 : (⟨b, o, none⟩ : Addr).add i = ⟨b, o + i, none⟩ := by
          unfold Addr.add
          split
          · rename_i h; subst h; rfl
          · rfl
        rw [h3, h2] at h1
        rw [← hu]; exact h1
theorem bytes_range {w : World} {a : Option Addr} {len cap : Nat} {zs : List Int} (h : IsRow .u8 w a len cap zs) : ∀ b ∈ zs.take len, 0 ≤ b ∧ b < 256 := fun b hb => by
  have hm := List.mem_of_mem_take hb
  rcases h with ⟨_, _, _, rfl⟩ | ⟨x, _, _, _, _, _, hw⟩
  · cases hm
  · have := hw b hm
    simp only [Lit.wf, Bool.and_eq_true, decide_eq_true_eq] at this
    have h1 : IntKind.u8.min = 0 := by decide
    have h2 : IntKind.u8.max = 255 := by decide
    omega
theorem walk (a0 : Option Addr) (len0 cap0 : Nat) (z0 : List Int) (w : World) (w0 : IsRow .u8 w a0 len0 cap0 z0) :
    Calls Tryz.prog 4 #[.slice a0 len0 cap0] w fun e w' => e = .returned (.bool true) ∧ Below w.heap.size w w' := by
  refine (LossNear_ok (z0.take len0) (bytes_range w0) (fun _ => True) w [.slice a0 len0 cap0] (fun _ _ => trivial) ⟨bytes_in w0, trivial⟩).mono ?_
  rintro e w' ⟨v, rfl, hv, hb⟩
  have hv : v = .bool true := hv
  subst hv
  exact ⟨rfl, hb.kit⟩
set_option maxRecDepth 100000 in
theorem lifted (os : Os) (started : os.Started) (H : Type) (enc : TypeId × Value → H) :
    ReturnsInHanded {} Tryz.checked os 4 .any (Rows.lossNearSpec.pre6 enc Tryz.prog Tryz.f4 Rows.lossNearRow.domain false) (Rows.lossNearSpec.post enc Tryz.prog Tryz.f4 false true false false) := by
  refine returnsInHanded_of_change (C := Tryz.checked) own started (by kernel_rfl) Tryz.func4
    (ChangeSpec.witness6 (enc := enc) (C := Tryz.checked) false ⟨#[], #[.slice none 0 0], []⟩ 8 (by kernel_rfl) (by kernel_rfl) (by kernel_rfl) (by kernel_rfl)) ?_
  intro W base args ds gs before hval0 hW hcnd _
  have hval : ∀ (j : Nat) t v, Tryz.f4.params[j]? = some t → args[j]? = some v → Value.okWide Tryz.prog W .any base t v := hval0
  have hW' := hW
  obtain ⟨p, q, hA0, hV, rfl, hfz, hnd⟩ := hW
  have hA : DataW.TrodAll enc Tryz.prog W 0 (fun _ => true) true Tryz.f4.params.toList args.toList ds p := hA0
  rw [Tryz.params4] at hA hval
  obtain ⟨v0, vs0, d0, ds0, p0, q0, hargs, rfl, rfl, h0, r0⟩ := trodAll_cons hA
  obtain ⟨rfl, rfl, rfl⟩ := trodAll_nil r0
  obtain rfl : args = #[v0] := by cases args; simp_all
  obtain ⟨rfl, rfl⟩ := trodVars_none hV
  obtain ⟨a0, len0, cap0, rfl⟩ := okWide_slice Tryz.underlying22 (hval 0 22 v0 rfl rfl)
  have k0 := h0
  have lt0 : ∀ x ∈ p0, x.block < W.heap.size := by obtain ⟨m, hm⟩ := k0; exact DataW.trod_lt m _ _ _ hm
  obtain ⟨z0, w0⟩ : ∃ zs, IsRow .u8 W a0 len0 cap0 zs := by
    obtain ⟨fuel, hf⟩ := h0
    rcases open_ints Tryz.underlying22 Tryz.underlying5 (by kernel_rfl) hf with ⟨hcs, _⟩ | ⟨x, l, c, zs, hcs, _, hl, hm, hz, _, hcell, hwz⟩
    · simp [Value.cells] at hcs
      obtain ⟨rfl, rfl, rfl⟩ := hcs
      exact ⟨[], .inl ⟨rfl, rfl, rfl, rfl⟩⟩
    · simp [Value.cells] at hcs
      obtain ⟨rfl, rfl, rfl⟩ := hcs
      exact ⟨zs, .inr ⟨_, rfl, hl, hm, by simpa using hz, hcell, hwz⟩⟩
  clear hA0 hval0
  refine (walk a0 len0 cap0 z0 W w0).mono fun e W' ⟨he, bel⟩ => ?_
  subst he
  exact ⟨_, rfl, _, _, _, [], _, [], hW', trodAll_mk1 (shut_bool Tryz.underlying4 _), (trodAll_cons_mk (Below.trod laidOut (by kernel_rfl) (of_decide_eq_true (by kernel_rfl)) k0 bel lt0) trodAll_mk0), rfl, bel.frame _, fun h => by cases h⟩
theorem over : Rows.lossNearRow.holds Tryz.pinned (OpenSpec.ofChange Rows.lossNearSpec) :=
  OpenClaim.holds_of_wide 4 Tryz.f4 rfl rfl rfl rfl rfl rfl rfl ⟨rfl, rfl, rfl, rfl, rfl⟩ rfl rfl rfl rfl rfl (by kernel_rfl) Tryz.func4 (by kernel_rfl)
    (of_decide_eq_true (by kernel_rfl)) (by unfold Func.isWrapper; first | (rw [if_pos (by decide +kernel)]; kernel_rfl) | (rw [if_neg (by decide +kernel)]; exact ⟨rfl, rfl⟩))
    (fun os started H enc _ => lifted os started H enc)
theorem proved : Rows.LossNearSaid := over
#print axioms proved
end Go.Proofs.YtlkdkbdgnjcopaaGreat.lossNear
