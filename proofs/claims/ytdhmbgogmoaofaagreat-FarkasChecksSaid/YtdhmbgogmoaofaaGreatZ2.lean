/- The proof that FarkasChecks holds for every input, without conditions: part 2 of 6. -/
import Derived.Test.YtdhmbgogmoaofaaGreatZ1
import Derived.Lib.AppendZeros
import Derived.Laws.Slices
namespace Go.Own
open Go.RowKit
variable {X : Ctx} {L : AL} {B : BL} {ops : Array Oper} {K : Act → World → Prop} {r : Pl} {k : Kd}
  {x y z : Operand} {d : Nat} {t t2 t' : TypeId} {pos : String} {af : Array Edge} {g : Option (Nat × Bool)}
theorem Ops.idxS {s : ByteArray} {kk : IntKind} {j : Int} {b : UInt8} (hg : gd ops L g = some true) (hx : ev L x = some (.ct (.ex (.string s)))) (hy : ev L y = some (.ct (.ex (.int kk j)))) (hu : X.P.underlying t = some .string) (h0 : 0 ≤ j) (hb : s[j.toNat]? = some b) (hn : Nat.blt d X.n = true)
    (h : Ops X ops r ((d, .ct (.ex (.int .u8 b.toNat))) :: L) B K) : Ops X ops (.cons ⟨some d, .index t x y, t', pos, af, g⟩ k r) L B K :=
  Xn (s := .ct (.ex (.int .u8 b.toNat))) hg rfl hn (fun a ρ w hI => by
    refine ⟨_, fun w' _ => ?_, rfl⟩
    show (do pure (Next.value (← Instr.index t (a.eval x) (a.eval y))) : Sem Next).run X.P w' = _
    rw [hI.evx hx, hI.evx hy]
    refine ZU ?_
    simp [Instr.index, asIntOf, run_underlying hu, h0, hb]) h
end Go.Own
namespace Go.Own
open Go.RowKit
variable {X : Ctx} {L : AL} {B : BL} {ops : Array Oper} {K : Act → World → Prop} {r : Pl} {k : Kd}
  {x y z : Operand} {d : Nat} {t t2 t' : TypeId} {pos : String} {af : Array Edge} {g : Option (Nat × Bool)}
theorem ishl {p j : Int} {kk : IntKind} (n : Nat) (hj : j = (n : Int)) (hn : n ≤ 64) (h1 : -9223372036854775808 ≤ p * 2 ^ n) (h2 : p * 2 ^ n ≤ 9223372036854775807) : IBin .shl .i64 p kk j (.int .i64 (p * 2 ^ n)) := .of fun P t w => by
  show (Op.shift .shl .i64 p kk j).run P w = _
  have e : (Op.shift .shl .i64 p kk j) = pure (.int .i64 (IntKind.i64.wrap (p * 2 ^ n))) := by
    unfold Op.shift; rw [if_neg (by omega)]
    have : min j.toNat IntKind.i64.bits = n := by show min j.toNat 64 = n; omega
    simp only [this]
  rw [e, Ze h1 h2]; rfl
theorem ishr {p j : Int} {kk : IntKind} (n : Nat) (hj : j = (n : Int)) (hn : n ≤ 64) : IBin .shr .i64 p kk j (.int .i64 (p / 2 ^ n)) := .of fun P t w => by
  show (Op.shift .shr .i64 p kk j).run P w = _
  have e : (Op.shift .shr .i64 p kk j) = pure (.int .i64 (p.fdiv (2 ^ n))) := by
    unfold Op.shift; rw [if_neg (by omega)]
    have : min j.toNat IntKind.i64.bits = n := by show min j.toNat 64 = n; omega
    simp only [this]
  rw [e, Int.fdiv_eq_ediv_of_nonneg _ (Int.le_of_lt (Int.pow_pos (by decide)))]; rfl
theorem ushr {p j : Int} {kk : IntKind} (n : Nat) (hj : j = (n : Int)) (hn : n ≤ 64) : IBin .shr .u64 p kk j (.int .u64 (p / 2 ^ n)) := .of fun P t w => by
  show (Op.shift .shr .u64 p kk j).run P w = _
  have e : (Op.shift .shr .u64 p kk j) = pure (.int .u64 (p.fdiv (2 ^ n))) := by
    unfold Op.shift; rw [if_neg (by omega)]
    have : min j.toNat IntKind.u64.bits = n := by show min j.toNat 64 = n; omega
    simp only [this]
  rw [e, Int.fdiv_eq_ediv_of_nonneg _ (Int.le_of_lt (Int.pow_pos (by decide)))]; rfl
theorem ior_add {p q : Int} (n : Nat) (m : Nat) (hp0 : 0 ≤ p) (hp : p < 2 ^ n) (hq : q = (m : Int) * 2 ^ n) (hs : p + q ≤ 9223372036854775807) : IBin .or .i64 p .i64 q (.int .i64 (p + q)) := .of fun P t w => by
  have hq0 : 0 ≤ q := by rw [hq]; exact Int.mul_nonneg (by omega) (Int.le_of_lt (Int.pow_pos (by decide)))
  show (Op.intBits .or .i64 p q).run P w = _
  have e1 : (BitVec.ofInt 64 p ||| BitVec.ofInt 64 q).toNat = (p + q).toNat := by
    rw [BitVec.toNat_or, BitVec.toNat_ofInt, BitVec.toNat_ofInt]
    have a1 : (p % ((2 ^ 64 : Nat) : Int)).toNat = p.toNat := by omega
    have a2 : (q % ((2 ^ 64 : Nat) : Int)).toNat = q.toNat := by omega
    rw [a1, a2]
    have hqn : q.toNat = 2 ^ n * m := by
      rw [hq, show (2 : Int) ^ n = ((2 ^ n : Nat) : Int) by rw [Int.natCast_pow]; rfl, ← Int.natCast_mul, Int.toNat_natCast, Nat.mul_comm]
    have hpn : p.toNat < 2 ^ n := by
      have : (p.toNat : Int) < ((2 ^ n : Nat) : Int) := by rw [show ((2 ^ n : Nat) : Int) = (2 : Int) ^ n by rw [Int.natCast_pow]; rfl]; omega
      omega
    rw [hqn, Nat.or_comm, ← Nat.two_pow_add_eq_or_of_lt hpn]; omega
  have h2 : ((p + q).toNat : Int) = p + q := by omega
  show (pure (Value.int .i64 (IntKind.i64.wrap ((BitVec.ofInt 64 p ||| BitVec.ofInt 64 q).toNat : Int))) : Sem Value).run P w = _; rw [e1, h2, Ze (n := p + q) (by omega) (by omega)]; rfl
def bl (n : Nat) : Nat := if n = 0 then 0 else Nat.log2 n + 1
def tabOk (s : ByteArray) : Bool := (List.range 256).all fun n => s[n]? == some (UInt8.ofNat (bl n))
theorem bl_lt {n : Nat} (h : n < 256) : bl n < 9 := by
  unfold bl; split
  · decide
  · rename_i h0
    have : Nat.log2 n < 8 := (Nat.log2_lt h0).2 (by omega); omega
theorem bl_spec (n : Nat) : n < 2 ^ bl n := by
  unfold bl; split
  · rename_i h; subst h; decide
  · exact Nat.lt_log2_self
theorem tab_at {s : ByteArray} (hs : tabOk s = true) {n : Nat} (h : n < 256) : s[n]? = some (UInt8.ofNat (bl n)) := by
  unfold tabOk at hs; rw [List.all_eq_true] at hs; exact eq_of_beq (hs n (List.mem_range.2 h))
theorem Ops.idxTab {s : ByteArray} {kk : IntKind} {j : Int} (m : Nat) (hg : gd ops L g = some true) (hx : ev L x = some (.ct (.ex (.string s)))) (hy : ev L y = some (.ct (.ex (.int kk j)))) (hu : X.P.underlying t = some .string) (hj : j = (m : Int)) (hm : m < 256) (hs : tabOk s = true) (hn : Nat.blt d X.n = true)
    (h : Ops X ops r ((d, .ct (.ex (.int .u8 (bl m)))) :: L) B K) : Ops X ops (.cons ⟨some d, .index t x y, t', pos, af, g⟩ k r) L B K := by
  refine Ops.idxS (b := UInt8.ofNat (bl m)) hg hx hy hu (by omega) (by subst hj; exact tab_at hs hm) hn ?_
  have : ((UInt8.ofNat (bl m)).toNat : Int) = (bl m : Int) := by
    have := bl_lt hm; rw [UInt8.toNat_ofNat']; omega
  rw [this]; exact h
end Go.Own
namespace Go.Limbs
def gs (h n t l s : Int) : Int := min 1073741823 ((h * 1073741824 * 1073741824 + n * 1073741824 + t) / (l * 1073741824 + s))
theorem gs_step {h n t l s q r : Int} (hl : 0 < l) (hs : 0 ≤ s) (hv : q * l + r = h * 1073741824 + n) (hg : gs h n t l s ≤ q)
    (hc : 1073741824 ≤ q ∨ r * 1073741824 + t < q * s) : gs h n t l s ≤ q - 1 := by
  unfold gs at *; rcases hc with hc | hc
  · omega
  · have hV : 0 < l * 1073741824 + s := by omega
    have e : q * (l * 1073741824 + s) = (q * l) * 1073741824 + q * s := by grind
    have : (h * 1073741824 * 1073741824 + n * 1073741824 + t) / (l * 1073741824 + s) < q := by
      apply Int.ediv_lt_of_lt_mul hV
      rw [e]
      have : q * l = h * 1073741824 + n - r := by omega
      rw [this]; omega
    omega
theorem gs_exit {h n t l s q r : Int} (hl : 0 < l) (hh : h ≤ l) (hn : n < 1073741824) (ht : 0 ≤ t) (hs : 0 ≤ s) (hs2 : s < 1073741824) (hq : 0 ≤ q) (hv : q * l + r = h * 1073741824 + n) (hg : gs h n t l s ≤ q)
    (hc : ¬ (r < 1073741824 ∧ (1073741824 ≤ q ∨ r * 1073741824 + t < q * s))) : q = gs h n t l s := by
  have hV : 0 < l * 1073741824 + s := by omega
  have e : q * (l * 1073741824 + s) = (q * l) * 1073741824 + q * s := by grind
  have e2 : q * l = h * 1073741824 + n - r := by omega
  have key : q ≤ 1073741823 ∧ q * (l * 1073741824 + s) ≤ h * 1073741824 * 1073741824 + n * 1073741824 + t := by
    by_cases hr : r < 1073741824
    · have : ¬ 1073741824 ≤ q ∧ ¬ r * 1073741824 + t < q * s := ⟨fun h => hc ⟨hr, .inl h⟩, fun h => hc ⟨hr, .inr h⟩⟩; refine ⟨by omega, ?_⟩; rw [e, e2]; omega
    · have hq2 : q ≤ 1073741823 := by
        by_cases h1 : q < 1073741824
        · omega
        · have : 1073741824 * l ≤ q * l := Int.mul_le_mul_of_nonneg_right (by omega) (by omega); omega
      refine ⟨hq2, ?_⟩; have : q * s ≤ 1073741823 * 1073741823 := Int.mul_le_mul hq2 (by omega) hs (by omega); rw [e, e2]; omega
  have : q ≤ (h * 1073741824 * 1073741824 + n * 1073741824 + t) / (l * 1073741824 + s) := (Int.le_ediv_iff_mul_le hV).2 key.2; unfold gs at *; omega
theorem gs_good {P h n t l s a b : Int} (hP : 0 < P) (ha : 0 ≤ a ∧ a < P) (hb : 0 ≤ b ∧ b < P) (hl : 0 < l) (hs : 0 ≤ s) (hh : 0 ≤ h) (hn : 0 ≤ n) (ht : 0 ≤ t)
    (hU : (h * 1073741824 * 1073741824 + n * 1073741824 + t) * P + a < ((l * 1073741824 + s) * P + b) * 1073741824) :
    0 ≤ gs h n t l s ∧ gs h n t l s ≤ 1073741823 ∧ (gs h n t l s - 1) * ((l * 1073741824 + s) * P + b) ≤ (h * 1073741824 * 1073741824 + n * 1073741824 + t) * P + a ∧
      (h * 1073741824 * 1073741824 + n * 1073741824 + t) * P + a < (gs h n t l s + 1) * ((l * 1073741824 + s) * P + b) := by
  have hV : 0 < l * 1073741824 + s := by omega
  have hV1 : 1073741824 ≤ l * 1073741824 + s := by omega
  have hU0 : 0 ≤ h * 1073741824 * 1073741824 + n * 1073741824 + t := by omega
  unfold gs; generalize h * 1073741824 * 1073741824 + n * 1073741824 + t = U3 at *; generalize l * 1073741824 + s = V2 at *; have d0 : 0 ≤ U3 / V2 := Int.ediv_nonneg hU0 (by omega); have d1 : U3 / V2 * V2 ≤ U3 := Int.ediv_mul_le _ (by omega); have d2 : U3 < (U3 / V2 + 1) * V2 := Int.lt_ediv_add_one_mul_self _ hV; generalize U3 / V2 = D at *; have hVP : 0 ≤ V2 * P := Int.mul_nonneg (by omega) (by omega); refine ⟨by omega, by omega, ?_, ?_⟩
  · have hg : min 1073741823 D ≤ D := by omega
    have hg0 : 0 ≤ min 1073741823 D := by omega
    have hg1 : min 1073741823 D ≤ 1073741823 := by omega
    generalize min 1073741823 D = G at *; have f1 : G * V2 ≤ D * V2 := Int.mul_le_mul_of_nonneg_right hg (by omega); have f2 : (G * V2) * P ≤ U3 * P := Int.mul_le_mul_of_nonneg_right (by omega) (by omega); have f3 : G * b ≤ G * P := Int.mul_le_mul_of_nonneg_left (by omega) hg0; have f4 : G * P ≤ V2 * P := Int.mul_le_mul_of_nonneg_right (by omega) (by omega)
    have f5 : (G - 1) * (V2 * P + b) = (G * V2) * P + G * b - V2 * P - b := by grind
    rw [f5]; omega
  · by_cases hD : D < 1073741823
    · have : min 1073741823 D = D := by omega
      rw [this]; have f1 : (U3 + 1) * P ≤ ((D + 1) * V2) * P := Int.mul_le_mul_of_nonneg_right (by omega) (by omega)
      have f2 : (D + 1) * (V2 * P + b) = ((D + 1) * V2) * P + (D + 1) * b := by grind
      have f3 : 0 ≤ (D + 1) * b := Int.mul_nonneg (by omega) hb.1; rw [f2]
      have f4 : (U3 + 1) * P = U3 * P + P := by grind
      omega
    · have : min 1073741823 D = 1073741823 := by omega
      rw [this]; omega
theorem pre_drop (xs : List Int) (j i : Nat) : pre xs (j + i) = pre xs j + BB ^ j * pre (xs.drop j) i := by
  induction i with
  | zero => rw [Xr]; simp
  | succ i ih =>
    rw [show j + (i + 1) = (j + i) + 1 by omega, XY, ih, XY]
    have : (xs.drop j).getD i 0 = xs.getD (j + i) 0 := by simp [List.getD_eq_getElem?_getD, List.getElem?_drop]
    rw [this, Int.pow_add]; grind
theorem getD_ge {xs : List Int} {i : Nat} (h : xs.length ≤ i) : xs.getD i 0 = 0 := by rw [List.getD_eq_getElem?_getD, List.getElem?_eq_none h]; rfl
theorem zero_above {xs : List Int} (h : OKL xs) {k : Nat} (hv : val xs < BB ^ k) (j : Nat) (hj : k ≤ j) : xs.getD j 0 = 0 := by
  rcases Nat.lt_or_ge j xs.length with hl | hl
  · have h1 : val xs = pre xs xs.length := (Zv (Nat.le_refl _)).symm; obtain ⟨d, hd⟩ : ∃ d, xs.length = (j + 1) + d := ⟨xs.length - (j + 1), by omega⟩; rw [hd, pre_drop, XY] at h1; have b1 := Zn h j; have b2 := Zn (h.drop (j + 1)) d; have b3 := h.get j; have p1 : 0 ≤ BB ^ (j + 1) * pre (xs.drop (j + 1)) d := Int.mul_nonneg (Int.le_of_lt (Int.pow_pos (by decide))) b2.1
    have p2 : BB ^ k ≤ BB ^ j := by
      obtain ⟨m, rfl⟩ : ∃ m, j = k + m := ⟨j - k, by omega⟩; rw [Int.pow_add]; have q1 : (1 : Int) ≤ BB ^ m := Int.pow_pos (by decide); have q2 : (0 : Int) ≤ BB ^ k := Int.le_of_lt (Int.pow_pos (by decide)); have := Int.mul_le_mul_of_nonneg_left q1 q2; omega
    by_cases h0 : 0 < xs.getD j 0
    · have p3 : 1 * BB ^ j ≤ xs.getD j 0 * BB ^ j := Int.mul_le_mul_of_nonneg_right h0 (Int.le_of_lt (Int.pow_pos (by decide))); omega
    · omega
  · exact getD_ge hl
theorem val_pre_of {xs : List Int} (h : OKL xs) {k : Nat} (hv : val xs < BB ^ k) : val xs = pre xs k := val_of_zeros (fun j hj => zero_above h hv j hj)
def shrL (by' : Nat) : List Int → List Int
  | [] => []
  | x :: xs => ((xs.getD 0 0 * 1073741824 + x) / 2 ^ by') % 1073741824 :: shrL by' xs
theorem shrL_len (k : Nat) (xs : List Int) : (shrL k xs).length = xs.length := by
  induction xs with
  | nil => rfl
  | cons x xs ih => simp [shrL, ih]
theorem shrL_get (k : Nat) (xs : List Int) (i : Nat) (h : i < xs.length) : (shrL k xs).getD i 0 = ((xs.getD (i + 1) 0 * 1073741824 + xs.getD i 0) / 2 ^ k) % 1073741824 := by
  induction xs generalizing i with
  | nil => simp at h
  | cons x xs ih =>
    cases i with
    | zero => simp [shrL]
    | succ i => simp only [shrL, List.getD_cons_succ]; exact ih i (by simpa using h)
theorem shrL_ok (k : Nat) (xs : List Int) : OKL (shrL k xs) := by
  induction xs with
  | nil => exact OKL.nil
  | cons x xs ih => exact OKL.cons (by simp only [BB]; omega) ih
theorem two_split {k : Nat} (hk : k ≤ 30) : (1073741824 : Int) = 2 ^ k * 2 ^ (30 - k) := by
  rw [← Int.pow_add, show k + (30 - k) = 30 by omega]; rfl
theorem ediv_mod_B {k : Nat} (hk : k ≤ 30) (x y z : Int) : ((x + 1073741824 * (y + 1073741824 * z)) / 2 ^ k) % 1073741824 = ((y * 1073741824 + x) / 2 ^ k) % 1073741824 := by
  have e := two_split hk
  have hp : (2 : Int) ^ k ≠ 0 := by have : (0 : Int) < 2 ^ k := Int.pow_pos (by decide); omega
  have : x + 1073741824 * (y + 1073741824 * z) = (y * 1073741824 + x) + (2 ^ (30 - k) * z * 1073741824) * 2 ^ k := by
    have : (1073741824 : Int) * (1073741824 * z) = (2 ^ (30 - k) * z * 1073741824) * 2 ^ k := by
      conv => lhs; rw [e]
      grind
    grind
  rw [this, Int.add_mul_ediv_right _ _ hp, Int.add_mul_emod_self_right]
theorem val_shrL {k : Nat} (hk : k ≤ 30) : ∀ (xs : List Int), OKL xs → val (shrL k xs) = val xs / 2 ^ k
  | [], _ => by simp [shrL, val]
  | x :: xs, h => by
    have ih := val_shrL hk xs h.tail
    have hx := h.head
    have hp : (0 : Int) < 2 ^ k := Int.pow_pos (by decide)
    have h1 : val xs = xs.getD 0 0 + 1073741824 * val xs.tail := by
      cases xs with
      | nil => simp [val]
      | cons y ys => simp [val, BB]
    simp only [shrL, val, ih, BB] at *; have e1 := ediv_mod_B hk x (xs.getD 0 0) (val xs.tail); rw [← h1] at e1; rw [← e1]
    have e2 : val xs / 2 ^ k = (x + 1073741824 * val xs) / 2 ^ k / 1073741824 := by
      rw [Int.ediv_ediv_of_nonneg (by omega), Int.mul_comm (2 ^ k) 1073741824, ← Int.ediv_ediv_of_nonneg (by omega), Int.mul_comm 1073741824, Int.add_mul_ediv_right _ _ (by decide), Int.ediv_eq_zero_of_lt hx.1 hx.2, Int.zero_add]
    rw [e2]; have := Int.emod_add_mul_ediv ((x + 1073741824 * val xs) / 2 ^ k) 1073741824; omega
end Go.Limbs
namespace Go.Proofs.YtdhmbgogmoaofaaGreat
open Go.Own Go.Limbs
attribute [local irreducible] St Ops Go.Own.Fin Ok
abbrev u64C (x : Int) : CT := .ex (.int .u64 x)
theorem uStr : Tryz.prog.underlying 9 = some .string := Tryz.underlying9
theorem uIntB : Tryz.prog.underlying 3 = some (.int .i64) := Tryz.underlying3
theorem uU8B : Tryz.prog.underlying 5 = some (.int .u8) := Tryz.underlying5
theorem uUintB : Tryz.prog.underlying 163 = some (.int .u64) := Tryz.underlying163
theorem uU64B : Tryz.prog.underlying 149 = some (.int .u64) := Tryz.underlying149
theorem wrap_u8 {n : Int} (h1 : 0 ≤ n) (h2 : n < 256) : IntKind.u8.wrap n = n := by
  rw [show IntKind.u8.wrap n = n % 256 by simp [IntKind.wrap, IntKind.bits, IntKind.signed]]; omega
def bln (n : Nat) : Nat := if 65536 ≤ n then (if 256 ≤ n / 65536 then 24 + bl (n / 65536 / 256) else 16 + bl (n / 65536)) else if 256 ≤ n then 8 + bl (n / 256) else bl n
theorem bln_spec {n : Nat} (h0 : 0 < n) (h : n < 1073741824) : 1 ≤ bln n ∧ bln n ≤ 30 ∧ n < 2 ^ bln n := by
  have pos : ∀ m, 0 < m → 1 ≤ bl m := fun m hm => by unfold bl; rw [if_neg (by omega)]; omega
  unfold bln; split
  · split
    · have h1 := bl_spec (n / 65536 / 256); have h2 := pos (n / 65536 / 256) (by omega)
      have h3 : bl (n / 65536 / 256) ≤ 6 := by
        unfold bl; rw [if_neg (by omega)]; have : Nat.log2 (n / 65536 / 256) < 6 := (Nat.log2_lt (by omega)).2 (by omega); omega
      refine ⟨by omega, by omega, ?_⟩; rw [Nat.pow_add]
      have : n < (n / 65536 / 256 + 1) * 16777216 := by omega
      exact Nat.lt_of_lt_of_le this (by rw [Nat.mul_comm]; exact Nat.mul_le_mul (by decide) h1)
    · have h1 := bl_spec (n / 65536); have h2 := pos (n / 65536) (by omega); have h3 := bl_lt (n := n / 65536) (by omega); refine ⟨by omega, by omega, ?_⟩; rw [Nat.pow_add]
      have : n < (n / 65536 + 1) * 65536 := by omega
      exact Nat.lt_of_lt_of_le this (by rw [Nat.mul_comm]; exact Nat.mul_le_mul (by decide) h1)
  · split
    · have h1 := bl_spec (n / 256); have h2 := pos (n / 256) (by omega); have h3 := bl_lt (n := n / 256) (by omega); refine ⟨by omega, by omega, ?_⟩; rw [Nat.pow_add]
      have : n < (n / 256 + 1) * 256 := by omega
      exact Nat.lt_of_lt_of_le this (by rw [Nat.mul_comm]; exact Nat.mul_le_mul (by decide) h1)
    · have h1 := bl_spec n; have h3 := bl_lt (n := n) (by omega); exact ⟨pos n h0, by omega, h1⟩
theorem goLen64 : InGo Tryz.prog 175 := InGo.of Tryz.func175 rfl (by decide)
set_option maxHeartbeats 2000000 in
theorem Len64_ok (n : Nat) (h1 : n < 1073741824) : Ok Tryz.prog 175 [u64C n] (intC (bln n)) := by
  refine Ok.enter Tryz.func175 J _ Tryz.ntmps175 J ?_
  intro S w; refine Qy (Qx fun K hK => ?_); refine Qj J J J (Qv (hK _ _ (Qz (Qy (Qy ?_))))); clear hK K; refine Qx (fun K hK => ?_); refine Qq J J J (Qk igeq J J J J (Qv (hK _ _ (Qz ?_)))); clear hK K; refine Q1 J (fun h => by exfalso; omega) (fun _ => ?_); refine Q0 (Qz (Qy (Qy (Qx fun K hK => ?_)))); refine Qq J J J (Qk igeq J J J J (Qv (hK _ _ (Qz ?_)))); clear hK K; refine Q1 J (fun ha => ?_) (fun ha => ?_)
  · refine Qy (Qx fun K hK => ?_); refine Qq J J J (Qk (ushr 16 J (by decide)) J J J J ?_); rw [show (n : Int) / 2 ^ 16 = ((n / 65536 : Nat) : Int) by omega]; refine Qj J J J (Qv (hK _ _ (Qz ?_))); clear hK K; refine Qx (fun K hK => ?_); refine Qq J J J (Qk (iadd (by omega) (by omega)) J J J J ?_); refine Qj J J J (Qv (hK _ _ (Qz (Qy (Qy ?_))))); clear hK K; refine Qx (fun K hK => ?_); refine Qq J J J (Qk igeq J J J J (Qv (hK _ _ (Qz ?_)))); clear hK K; refine Q1 J (fun hb => ?_) (fun hb => ?_)
    · refine Qy (Qx fun K hK => ?_); refine Qq J J J (Qk (ushr 8 J (by decide)) J J J J ?_); rw [show ((n / 65536 : Nat) : Int) / 2 ^ 8 = ((n / 65536 / 256 : Nat) : Int) by omega]; refine Qj J J J (Qv (hK _ _ (Qz ?_))); clear hK K; refine Qx (fun K hK => ?_); refine Qq J J J (Qk (iadd (by omega) (by omega)) J J J J ?_); refine Qj J J J (Qv (hK _ _ (Qz (Qy ?_)))); clear hK K; refine Qx (fun K hK => ?_); refine Qq J J J (Qq J J J ?_); have hb3 := bl_lt (n := n / 65536 / 256) (by omega)
      refine Zf (q := ((n / 65536 / 256 : Nat) : Int)) J J uU64B uU8B (wrap_u8 (by omega) (by omega)) J ?_
      refine Ops.idxTab (n / 65536 / 256) J J J uStr J (by omega) (by kernel_rfl) J ?_
      refine Zf (q := (bl (n / 65536 / 256) : Int)) J J uU8B uIntB (Ze (by omega) (by omega)) J ?_
      refine Qk (iadd (by omega) (by omega)) J J J J ?_
      refine Qj J J J (Qv (hK _ _ (Qz (QU ?_)))); clear hK K; refine QY [_] rfl (Qu J QQ) (by unfold bln; rw [if_pos (by omega), if_pos (by omega)]; congr 2) J
    · refine Q0 (Qz (Qy (Qx fun K hK => ?_))); refine Qq J J J (Qq J J J ?_); have hb3 := bl_lt (n := n / 65536) (by omega)
      refine Zf (q := ((n / 65536 : Nat) : Int)) J J uU64B uU8B (wrap_u8 (by omega) (by omega)) J ?_
      refine Ops.idxTab (n / 65536) J J J uStr J (by omega) (by kernel_rfl) J ?_
      refine Zf (q := (bl (n / 65536) : Int)) J J uU8B uIntB (Ze (by omega) (by omega)) J ?_
      refine Qk (iadd (by omega) (by omega)) J J J J ?_
      refine Qj J J J (Qv (hK _ _ (Qz (QU ?_)))); clear hK K; refine QY [_] rfl (Qu J QQ) (by unfold bln; rw [if_pos (by omega), if_neg (by omega)]; congr 2) J
  · refine Q0 (Qz (Qy (Qy (Qx fun K hK => ?_)))); refine Qq J J J (Qk igeq J J J J (Qv (hK _ _ (Qz ?_)))); clear hK K; refine Q1 J (fun hb => ?_) (fun hb => ?_)
    · refine Qy (Qx fun K hK => ?_); refine Qq J J J (Qk (ushr 8 J (by decide)) J J J J ?_); rw [show (n : Int) / 2 ^ 8 = ((n / 256 : Nat) : Int) by omega]; refine Qj J J J (Qv (hK _ _ (Qz ?_))); clear hK K; refine Qx (fun K hK => ?_); refine Qq J J J (Qk (iadd (by omega) (by omega)) J J J J ?_); refine Qj J J J (Qv (hK _ _ (Qz (Qy ?_)))); clear hK K; refine Qx (fun K hK => ?_); refine Qq J J J (Qq J J J ?_); have hb3 := bl_lt (n := n / 256) (by omega)
      refine Zf (q := ((n / 256 : Nat) : Int)) J J uU64B uU8B (wrap_u8 (by omega) (by omega)) J ?_
      refine Ops.idxTab (n / 256) J J J uStr J (by omega) (by kernel_rfl) J ?_
      refine Zf (q := (bl (n / 256) : Int)) J J uU8B uIntB (Ze (by omega) (by omega)) J ?_
      refine Qk (iadd (by omega) (by omega)) J J J J ?_
      refine Qj J J J (Qv (hK _ _ (Qz (QU ?_)))); clear hK K; refine QY [_] rfl (Qu J QQ) (by unfold bln; rw [if_neg (by omega), if_pos (by omega)]; congr 2) J
    · refine Q0 (Qz (Qy (Qx fun K hK => ?_))); refine Qq J J J (Qq J J J ?_); have hb3 := bl_lt (n := n) (by omega)
      refine Zf (q := (n : Int)) J J uU64B uU8B (wrap_u8 (by omega) (by omega)) J ?_
      refine Ops.idxTab n J J J uStr J (by omega) (by kernel_rfl) J ?_
      refine Zf (q := (bl n : Int)) J J uU8B uIntB (Ze (by omega) (by omega)) J ?_
      refine Qk (iadd (by omega) (by omega)) J J J J ?_
      refine Qj J J J (Qv (hK _ _ (Qz (QU ?_)))); clear hK K; refine QY [_] rfl (Qu J QQ) (by unfold bln; rw [if_neg (by omega), if_neg (by omega)]; exact congrArg intC (by omega)) J
theorem goLen : InGo Tryz.prog 167 := InGo.of Tryz.func167 rfl (by decide)
theorem Len_ok (n : Nat) (h1 : n < 1073741824) : Ok Tryz.prog 167 [u64C n] (intC (bln n)) := by
  refine Ok.enter Tryz.func167 J _ Tryz.ntmps167 J ?_
  intro S w; refine Qy (Qx fun K hK => ?_); refine Qj J J J (Qv (hK _ _ (Qz (Qy (Qr J (Q0 (Qz (Qy ?_)))))))); clear hK K; refine Qx (fun K hK => ?_); refine Qq J J J (QX goLen64 (Len64_ok n h1) J J J J (Qj J J J (Qv (hK _ _ (Qz (QU ?_)))))); clear hK K; refine QY [_] rfl (Qu J QQ) J J
theorem goguess : InGo Tryz.prog 169 := InGo.of Tryz.func169 (by kernel_rfl) (by kernel_rfl)
set_option maxHeartbeats 4000000 in
theorem guess_ok (h n t l s : Int) (hh0 : 0 ≤ h) (hh : h ≤ l) (hl0 : 0 < l) (hl : l < 1073741824) (hn0 : 0 ≤ n) (hn : n < 1073741824) (ht0 : 0 ≤ t) (ht : t < 1073741824) (hs0 : 0 ≤ s) (hs : s < 1073741824) :
    Ok Tryz.prog 169 [intC h, intC n, intC t, intC l, intC s] (intC (gs h n t l s)) := by
  refine Ok.enter Tryz.func169 J _ Tryz.ntmps169 J ?_
  intro S w; refine Qy (Qx fun K hK => ?_); refine Qj J J J (Qv (hK _ _ (Qz (Qy ?_)))); clear hK K; refine Qx (fun K hK => ?_); refine Qq J J J (Qk (ishl30 (by omega) (by omega)) J J J J ?_); refine Qq J J J (Qk (ior30 (by omega) (by omega) (by omega) (by omega)) J J J J ?_); refine Qj J J J (Qv (hK _ _ (Qz (Qy ?_)))); clear hK K; refine Xz mixed 8 (.p 0 (.p 1 (.p 2 (.p 3 (.p 4 (.p 5 (.p 6 (.p 7 .done)))))))) (by kernel_rfl) (fun K hK => ?_); refine Qq J J J (Qq J J J (Qk (iquo (by omega) (by omega) (by omega)) J J J J ?_)); refine Qq J J J (Qq J J J (Qk (irem (by omega) (by omega)) J J J J ?_)); refine Qj J J J (Qj J J J (Qv (hK _ _ (Qz (Qy (Q4 ?_)))))); clear hK K; have e0 := Int.mul_ediv_add_emod (h * 1073741824 + n) l; have e1 := Int.emod_nonneg (h * 1073741824 + n) (b := l) (by omega); have e2 := Int.emod_lt_of_pos (h * 1073741824 + n) hl0; have e3 : 0 ≤ (h * 1073741824 + n) / l := Int.ediv_nonneg (by omega) (by omega)
  have e4 : (h * 1073741824 + n) / l ≤ 2147483648 := by
    have : (h * 1073741824 + n) / l < 2147483649 := by
      apply Int.ediv_lt_of_lt_mul hl0
      have : h * 1073741824 ≤ l * 1073741824 := Int.mul_le_mul_of_nonneg_right hh (by decide); omega
    omega
  have e5 : gs h n t l s ≤ (h * 1073741824 + n) / l := by
    unfold gs
    have : (h * 1073741824 * 1073741824 + n * 1073741824 + t) / (l * 1073741824 + s) < (h * 1073741824 + n) / l + 1 := by
      apply Int.ediv_lt_of_lt_mul (by omega)
      generalize (h * 1073741824 + n) / l = q at *
      have f1 : (q + 1) * (l * 1073741824 + s) = (l * q) * 1073741824 + l * 1073741824 + (q + 1) * s := by grind
      have f2 : 0 ≤ (q + 1) * s := Int.mul_nonneg (by omega) hs0; rw [f1]; omega
    omega
  generalize (h * 1073741824 + n) / l = q0 at *; generalize (h * 1073741824 + n) % l = r0 at *
  refine Qn (α := Int × Int) (fun p => 0 ≤ p.1 ∧ p.1 ≤ 2147483648 ∧ 0 ≤ p.2 ∧ p.2 < 2147483648 ∧ p.1 * l + p.2 = h * 1073741824 + n ∧ gs h n t l s ≤ p.1)
    (fun p => [(2, .ct (intC t)), (3, .ct (intC l)), (4, .ct (intC s)), (12, .ct (intC p.1)), (13, .ct (intC p.2))]) (fun _ => []) (fun p => (1073741824 - p.2).toNat) (q0, r0)
    ⟨e3, e4, e1, by dsimp only; omega, by rw [Int.mul_comm]; exact e0, e5⟩ (by exact QJ J ⟨rfl, rfl, rfl, rfl, rfl, trivial⟩) ?_
  rintro ⟨q, r⟩ ⟨hq0, hq1, hr0, hr1, hv, hg⟩
  dsimp only at hq0 hq1 hr0 hr1 hv hg ⊢
  have hqs : 0 ≤ q * s ∧ q * s ≤ 2305843009213693952 := ⟨Int.mul_nonneg hq0 hs0, by
    have : q * s ≤ 2147483648 * 1073741824 := Int.mul_le_mul hq1 (by omega) hs0 (by decide)
    omega⟩
  have stop : ¬ (r < 1073741824 ∧ (1073741824 ≤ q ∨ r * 1073741824 + t < q * s)) → q = gs h n t l s := fun hc => gs_exit hl0 hh hn ht0 hs0 hs hq0 hv hg hc
  have go : r < 1073741824 → (1073741824 ≤ q ∨ r * 1073741824 + t < q * s) → gs h n t l s ≤ q - 1 := fun _ hc => gs_step hl0 hs0 hv hg hc
  have hv' : (q - 1) * l + (r + l) = h * 1073741824 + n := by rw [Int.sub_mul]; omega
  have gs0 : 0 ≤ gs h n t l s := by
    unfold gs; have : 0 ≤ (h * 1073741824 * 1073741824 + n * 1073741824 + t) / (l * 1073741824 + s) := Int.ediv_nonneg (by omega) (by omega); omega
  refine Qy (Qy (Qx fun K hK => ?_)); refine Qq J J J (Qk ilss J J J J (Qq J J J (Qi 26 J (fun h1 => ?_) (fun h1 => ?_))))
  · refine Qq J J J (Qk igeq J J J J (Qq J J J (Qi 29 J (fun h2 => ?_) (fun h2 => ?_))))
    · refine Qw J J J (Qw J J J (Qw J J J (Qw J J J (Qw J J J (Qw J J J (Qw J J J (Qw J J J (Q6 J J J J (Q6 J J J J (Qv (hK _ _ (Qz (Xq J (Q0 (Qz (Q4 ?_)))))))))))))))); clear hK K; refine Qx (fun K hK => ?_); refine Qq J J J (Qk (isub (by omega) (by omega)) J J J J ?_); refine Qq J J J (Qq J J J (Qk (iadd (by omega) (by omega)) J J J J ?_)); refine Qj J J J (Qj J J J (Qv (hK _ _ (XJ (Q7 ?_))))); clear hK K; have hg' := go h1 (.inl h2); refine Qb (q - 1, r + l) (by dsimp only; omega) ⟨by dsimp only; omega, by dsimp only; omega, by dsimp only; omega, by dsimp only; omega, hv', hg'⟩ (by exact QJ J ⟨rfl, rfl, rfl, rfl, rfl, trivial⟩)
    · refine Qq J J J (Qq J J J (Qk (imul (by omega) (by omega)) J J J J ?_)); refine Qq J J J (Qk (ishl30 (by omega) (by omega)) J J J J ?_); refine Qq J J J (Qk (ior30 (by omega) (by omega) (by omega) (by omega)) J J J J ?_); refine Qk igtr J J J J (Q2 J J J J (Q6 J J J J (Qv (hK _ _ (Qz ?_))))); clear hK K; refine Q1 J (fun h3 => ?_) (fun h3 => ?_)
      · refine Q0 (Qz (Q4 (Qx fun K hK => ?_))); refine Qq J J J (Qk (isub (by omega) (by omega)) J J J J ?_); refine Qq J J J (Qq J J J (Qk (iadd (by omega) (by omega)) J J J J ?_)); refine Qj J J J (Qj J J J (Qv (hK _ _ (XJ (Q7 ?_))))); clear hK K; have hg' := go h1 (.inr h3); refine Qb (q - 1, r + l) (by dsimp only; omega) ⟨by dsimp only; omega, by dsimp only; omega, by dsimp only; omega, by dsimp only; omega, hv', hg'⟩ (by exact QJ J ⟨rfl, rfl, rfl, rfl, rfl, trivial⟩)
      · have e := stop (fun hc => by rcases hc.2 with hc | hc <;> omega); refine Qm (Qz (Qy (Qx fun K hK => ?_))); refine Qq J J J (Qj J J J (Qv (hK _ _ (Qz (QU ?_))))); clear hK K; refine QY [_] rfl (Qu J QQ) (by rw [e]; rfl) J
  · have e := stop (fun hc => h1 hc.1); refine Qw J J J (Qw J J J (Qw J J J (Qw J J J (Qw J J J (Qw J J J (Qw J J J (Qw J J J (Qw J J J (Qw J J J (Qw J J J (Qw J J J (Q2 J J J J (Qv (hK _ _ (Qz (Qr J (Qm (Qz (Qy ?_))))))))))))))))))); clear hK K; refine Qx (fun K hK => ?_); refine Qq J J J (Qj J J J (Qv (hK _ _ (Qz (QU ?_))))); clear hK K; refine QY [_] rfl (Qu J QQ) (by rw [e]; rfl) J
attribute [local irreducible] OkF
theorem goshifted : InGo Tryz.prog 168 := InGo.of Tryz.func168 (by kernel_rfl) (by kernel_rfl)
def shl (xs : List Int) (k : Nat) : List Int := (limbs ((val xs).toNat * 2 ^ k)) ++ List.replicate (xs.length + 1 - (limbs ((val xs).toNat * 2 ^ k)).length) 0
theorem limbs_unique {xs ys : List Int} (hx : OKL xs) (hy : OKL ys) (hl : xs.length = ys.length) (hv : val xs = val ys) : xs = ys := by
  induction xs generalizing ys with
  | nil => exact (List.eq_nil_of_length_eq_zero hl.symm).symm
  | cons x xs ih =>
    cases ys with
    | nil => simp at hl
    | cons y ys =>
      have a := hx.head; have b := hy.head; simp only [val, BB] at *
      have e : x = y ∧ val xs = val ys := by omega
      rw [e.1, ih hx.tail hy.tail (by simpa using hl) e.2]
set_option maxHeartbeats 4000000 in
theorem shifted_ok (xs : List Int) (k : Nat) (hk : k ≤ 30) (hok : OKL xs) (hl : xs.length ≤ 256) : OkF Tryz.prog 168 [intsC xs, intC k] 3 1 (ints (shl xs k)) := by
  have hpk : (0 : Int) < 2 ^ k := Int.pow_pos (by decide)
  have hpk30 : (2 : Int) ^ k ≤ 1073741824 := by
    have e := two_split hk; have : (1 : Int) ≤ 2 ^ (30 - k) := Int.pow_pos (by decide); have := Int.mul_le_mul_of_nonneg_left this (Int.le_of_lt hpk); omega
  refine OkF.enter Tryz.func168 J _ Tryz.ntmps168 J ?_
  intro S w; refine Qy (Qx fun K hK => ?_); refine Qj J J J (Qv (hK _ _ (Qz (Qy ?_)))); clear hK K; refine Qx (fun K hK => ?_); refine Qq J J J (Q3 J J sNat.und (List.length_map ..) J (Qk (iadd (by omega) (by omega)) J J J J ?_))
  refine Z5 0 (xs.length + 1) J J J (by omega) sNat (by omega) (by omega) J J J ?_
  rw [ints_made]; refine Qj J J J (Qv (hK _ _ (Qz (Qy (Qy ?_))))); clear hK K; refine Qx (fun K hK => ?_); refine Qq J J J (Q3 J J sNat.und (List.length_map ..) J (Qq J J J (Qv (hK _ _ (Qz (Q4 ?_)))))); clear hK K
  refine Qn (α := Nat × List Int) (fun s => s.1 ≤ xs.length ∧ s.2.length = xs.length + 1 ∧ OKL s.2 ∧ (∀ j, s.1 < j → s.2.getD j 0 = 0) ∧ s.2.getD s.1 0 < 2 ^ k ∧ val s.2 = pre xs s.1 * 2 ^ k)
    (fun s => [(0, .ct (intsC xs)), (1, .ct (intC k)), (5, .own 0), (13, .ct (intsC xs)), (14, .ct (intC xs.length)), (15, .ct (intC s.1))])
    (fun s => [(0, .row 3 1 (ints s.2))]) (fun s => xs.length - s.1) (0, List.replicate (xs.length + 1) 0) ⟨Nat.zero_le _, by simp, OKL.zeros _, ?_, ?_, ?_⟩ (by exact QJ J ⟨rfl, rfl, rfl, rfl, rfl, rfl, trivial⟩) ?_
  · intro j _; simp [List.getD_eq_getElem?_getD, List.getElem?_replicate]; split <;> rfl
  · have : (List.replicate (xs.length + 1) (0 : Int)).getD 0 0 = 0 := by simp [List.getD_eq_getElem?_getD]
    dsimp only; rw [this]; exact hpk
  · dsimp only; rw [YZ, Xr]; simp
  rintro ⟨i, zs⟩ ⟨hi, hzl, hzok, hz, hzi, hv⟩
  dsimp only at hi hzl hzok hz hzi hv ⊢; refine Qy (Qx fun K hK => ?_); refine Qk ilss J J J J (Qv (hK _ _ (Qz (Qy ?_)))); clear hK K; refine Q1 J (fun h => ?_) (fun h => ?_)
  · have bx := hok.get i; have bz := hzok.get i; simp only [BB] at bx bz; have eix : (i : Int).toNat = i := Int.toNat_natCast i
    have e1 : (i : Int).toNat * 1 = i := by omega
    have e2 : ((i : Int) + 1).toNat * 1 = i + 1 := by omega
    have bs : 0 ≤ xs.getD i 0 * 2 ^ k ∧ xs.getD i 0 * 2 ^ k ≤ 1152921503533105152 := ⟨Int.mul_nonneg bx.1 (by omega), by
      have : xs.getD i 0 * 2 ^ k ≤ 1073741823 * 1073741824 := Int.mul_le_mul (by omega) hpk30 (by omega) (by omega)
      omega⟩
    refine Q0 (Qz (Qy (Q4 (Qy (Qx fun K hK => ?_))))); refine Qq J J J (Qc J J J sNat (by omega) (Xw (by omega) (by omega)) J ?_); refine Ql J J J lInt J (Qj J J J (Qj J J J (Qv (hK _ _ (Qz (Qy ?_)))))); clear hK K; refine Qx (fun K hK => ?_); refine Qq J J J (Qq J J J ?_); rw [eix]; skip
    refine Qk (ishl k J (by omega) (by omega) (by omega)) J J J J ?_
    refine Qj J J J (Qv (hK _ _ (Qz (Qy ?_)))); clear hK K; refine Qx (fun K hK => ?_); refine Qq J J J (Qq J J J (XX (xs.length + 1) J J J (by simp; omega) J sNat (by omega) (by omega) J ?_)); rw [e1]
    refine QK J J J J (Xs (by omega)) lInt J ?_
    refine Qq J J J ?_
    have dvd : ∃ m : Nat, xs.getD i 0 * 2 ^ k % 1073741824 = (m : Int) * 2 ^ k := by
      have h1 : (xs.getD i 0 % 2 ^ (30 - k)) * 2 ^ k = xs.getD i 0 * 2 ^ k % 1073741824 := by
        rw [two_split hk, Int.mul_comm (xs.getD i 0), Int.mul_emod_mul_of_pos _ _ hpk, Int.mul_comm]
      have h2 : 0 ≤ xs.getD i 0 % 2 ^ (30 - k) := Int.emod_nonneg _ (by have : (0 : Int) < 2 ^ (30 - k) := Int.pow_pos (by decide); omega); exact ⟨(xs.getD i 0 % 2 ^ (30 - k)).toNat, by rw [← h1]; congr 1; omega⟩
    obtain ⟨m, hm⟩ := dvd
    have hmod : zs.getD i 0 + xs.getD i 0 * 2 ^ k % 1073741824 < 1073741824 := by
      rw [hm]; have e := two_split hk
      have hmk : (m : Int) * 2 ^ k < 2 ^ (30 - k) * 2 ^ k := by rw [← hm, Int.mul_comm (2 ^ (30 - k)), ← e]; omega
      have hm2 : (m : Int) < 2 ^ (30 - k) := Int.lt_of_mul_lt_mul_right hmk (by omega); have : ((m : Int) + 1) * 2 ^ k ≤ 2 ^ (30 - k) * 2 ^ k := Int.mul_le_mul_of_nonneg_right (by omega) (by omega); rw [Int.add_mul, Int.one_mul, Int.mul_comm (2 ^ (30 - k)), ← e] at this; omega
    refine Qk iand30 J J J J (Qk (ior_add k m bz.1 hzi hm (by omega)) J J J J ?_); skip
    refine XX (xs.length + 1) J J J (by simp; omega) J sNat (by omega) (by omega) J ?_
    rw [e1]
    refine Xv J J J J J zInt (by simp [Ent.cs]; omega) ?_
    simp only [Ent.setc, ZV]; refine Qv (hK _ _ (Qz ?_)); clear hK K; refine Qx (fun K hK => ?_); refine Qq J J J (Qq J J J (Qk (iadd (by omega) (by omega)) J J J J ?_)); refine Qq J J J (Qk ishr30 J J J J ?_); skip
    refine XX (xs.length + 1) J J J (by simp; omega) J sNat (by omega) (by omega) J ?_
    rw [e2]
    refine Xv J J J J J zInt (by simp [Ent.cs]; omega) ?_
    simp only [Ent.setc, ZV]; refine Qv (hK _ _ (Qz ?_)); clear hK K; refine Qx (fun K hK => ?_)
    refine Qk (iadd (by omega) (by omega)) J J J J ?_
    refine Qq J J J (Qv (hK _ _ (Q7 ?_))); clear hK K
    have hq : xs.getD i 0 * 2 ^ k / 1073741824 < 2 ^ k := by
      apply Int.ediv_lt_of_lt_mul (by decide)
      rw [Int.mul_comm]; exact Int.mul_lt_mul_of_pos_left (by omega) hpk
    refine Qb (i + 1, (zs.set i (zs.getD i 0 + xs.getD i 0 * 2 ^ k % 1073741824)).set (i + 1) (xs.getD i 0 * 2 ^ k / 1073741824)) (by dsimp only; omega) ⟨by dsimp only; omega, by simp [hzl], ?_, ?_, ?_, ?_⟩ (by exact QJ J ⟨rfl, rfl, rfl, rfl, rfl, by simp only [Int.natCast_add]; rfl, trivial⟩)
    all_goals dsimp only
    · exact (hzok.set _ (by simp only [BB]; omega)).set _ (by simp only [BB]; omega)
    · intro j hj; rw [getD_set (by simp; omega), if_neg (by omega), getD_set (by omega), if_neg (by omega)]; exact hz j (by omega)
    · rw [getD_set (by simp; omega), if_pos J]; exact hq
    · rw [Ys (by simp; omega), Ys (by omega), getD_set (by omega), if_neg (by omega), hz (i + 1) (by omega), XY, hv, Int.pow_succ]; have e := Int.mul_ediv_add_emod (xs.getD i 0 * 2 ^ k) 1073741824; simp only [BB] at *; generalize xs.getD i 0 * 2 ^ k / 1073741824 = Q at *; generalize xs.getD i 0 * 2 ^ k % 1073741824 = M at *; generalize (1073741824 : Int) ^ i = I at *
      grind
  · have hi' : i = xs.length := by omega
    have hv2 : val zs = val xs * 2 ^ k := by rw [hv, hi', Zv (Nat.le_refl _)]
    have hvx := Yk hok
    have e2k : ((2 ^ k : Nat) : Int) = (2 : Int) ^ k := by rw [Int.natCast_pow]; rfl
    have hn : ((val xs).toNat * 2 ^ k : Nat) = (val zs).toNat := by
      rw [hv2]
      have : (((val xs).toNat * 2 ^ k : Nat) : Int) = val xs * 2 ^ k := by rw [Int.natCast_mul, e2k, Int.toNat_of_nonneg hvx]
      omega
    have hzs : zs = shl xs k := by
      unfold shl; rw [hn]
      have hlen : (limbs (val zs).toNat).length ≤ xs.length + 1 := by rw [← Xt hzok, ← hzl]; exact trim_len _
      have hvz := Yk hzok
      refine limbs_unique hzok ((XQ _).append (OKL.zeros _)) (by simp; omega) ?_
      rw [Yq, YZ, X7]; omega
    subst hzs; refine Qm (Qz (Qy (Qx fun K hK => ?_))); refine Qq J J J (Qj J J J (Qv (hK _ _ (Qz (QU ?_))))); clear hK K; refine Fin.retF J J J J
theorem shl_val (xs : List Int) (k : Nat) (hok : OKL xs) : val (shl xs k) = val xs * 2 ^ k := by
  unfold shl; rw [Yq, YZ, X7, Int.natCast_mul, Int.toNat_of_nonneg (Yk hok), Int.natCast_pow]; simp
theorem shl_ok (xs : List Int) (k : Nat) : OKL (shl xs k) := (XQ _).append (OKL.zeros _)
theorem shl_len (xs : List Int) (k : Nat) (hk : k ≤ 30) (hok : OKL xs) : (shl xs k).length = xs.length + 1 := by
  unfold shl
  have : (limbs ((val xs).toNat * 2 ^ k)).length ≤ xs.length + 1 := by
    apply Qf
    rw [Nat.pow_succ]
    have h1 : val xs < BB ^ xs.length := by have := Zn hok xs.length; rw [Zv (Nat.le_refl _)] at this; exact this.2
    have h2 : (val xs).toNat < 1073741824 ^ xs.length := by
      have := Yk hok
      have e : ((1073741824 ^ xs.length : Nat) : Int) = BB ^ xs.length := by rw [Int.natCast_pow]; rfl
      omega
    have h3 : 2 ^ k ≤ 1073741824 := by
      have : 2 ^ k ≤ 2 ^ 30 := Nat.pow_le_pow_right (by decide) hk; omega
    have h4 : 0 < 2 ^ k := Nat.pow_pos (by decide)
    calc (val xs).toNat * 2 ^ k < 1073741824 ^ xs.length * 2 ^ k := Nat.mul_lt_mul_of_pos_right h2 h4
      _ ≤ _ := Nat.mul_le_mul_left _ h3
  simp; omega
end Go.Proofs.YtdhmbgogmoaofaaGreat
namespace Go.Limbs
theorem getD_drop (xs : List Int) (j i : Nat) : (xs.drop j).getD i 0 = xs.getD (j + i) 0 := by simp [List.getD_eq_getElem?_getD, List.getElem?_drop]
theorem Bpos (k : Nat) : (0 : Int) < BB ^ k := Int.pow_pos (by decide)
theorem win {us vs : List Int} {n j : Nat} (hu : OKL us) (hv : OKL vs) (hn : 2 ≤ n) (hvl : vs.length = n + 1) (htop : vs.getD n 0 = 0) (hld : 0 < vs.getD (n - 1) 0) (hA : val us < val vs * BB ^ (j + 1)) :
    us.getD (j + n) 0 ≤ vs.getD (n - 1) 0 ∧ 0 ≤ gs (us.getD (j + n) 0) (us.getD (j + n - 1) 0) (us.getD (j + n - 2) 0) (vs.getD (n - 1) 0) (vs.getD (n - 2) 0) ∧
    gs (us.getD (j + n) 0) (us.getD (j + n - 1) 0) (us.getD (j + n - 2) 0) (vs.getD (n - 1) 0) (vs.getD (n - 2) 0) ≤ 1073741823 ∧
    (gs (us.getD (j + n) 0) (us.getD (j + n - 1) 0) (us.getD (j + n - 2) 0) (vs.getD (n - 1) 0) (vs.getD (n - 2) 0) - 1) * val vs * BB ^ j ≤ val us ∧
    val us < (gs (us.getD (j + n) 0) (us.getD (j + n - 1) 0) (us.getD (j + n - 2) 0) (vs.getD (n - 1) 0) (vs.getD (n - 2) 0) + 1) * val vs * BB ^ j ∧
    (∀ p, j + n + 1 ≤ p → us.getD p 0 = 0) ∧ 0 < val vs ∧ val vs < BB ^ n := by
  obtain ⟨m, rfl⟩ : ∃ m, n = m + 2 := ⟨n - 2, by omega⟩
  have e1 : m + 2 - 1 = m + 1 := by omega
  have e2 : m + 2 - 2 = m := by omega
  have e3 : j + (m + 2) - 1 = j + (m + 1) := by omega
  have e4 : j + (m + 2) - 2 = j + m := by omega
  rw [e1] at hld ⊢; rw [e2, e3, e4]; have v1 : val vs = pre vs (m + 3) := (Zv (by omega)).symm
  have v2 : val vs = (vs.getD (m + 1) 0 * 1073741824 + vs.getD m 0) * BB ^ m + pre vs m := by
    rw [v1, show m + 3 = (m + 2) + 1 by omega, XY, htop, show m + 2 = (m + 1) + 1 by omega, XY, XY, Int.pow_succ]; simp only [BB]; grind
  have b1 := Zn hv m; have b2 := hv.get (m + 1); have b3 := hv.get m
  have vlt : val vs < BB ^ (m + 2) := by
    have := Zn hv (m + 2); rw [v1, show m + 3 = (m + 2) + 1 by omega, XY, htop]; omega
  have vpos : 0 < val vs := by
    rw [v2]; have : 0 < (vs.getD (m + 1) 0 * 1073741824 + vs.getD m 0) * BB ^ m := Int.mul_pos (by omega) (Bpos m); omega
  have ult : val us < BB ^ (j + (m + 2) + 1) := by
    have h1 : val vs * BB ^ (j + 1) < BB ^ (m + 2) * BB ^ (j + 1) := Int.mul_lt_mul_of_pos_right vlt (Bpos _); rw [← Int.pow_add, show m + 2 + (j + 1) = j + (m + 2) + 1 by omega] at h1; omega
  have uz := fun p hp => zero_above hu ult p hp
  have u1 : val us = pre us j + BB ^ j * pre (us.drop j) (m + 3) := by
    rw [val_pre_of hu ult, show j + (m + 2) + 1 = j + (m + 3) by omega, pre_drop]
  have u2 : pre (us.drop j) (m + 3) = (us.getD (j + (m + 2)) 0 * 1073741824 * 1073741824 + us.getD (j + (m + 1)) 0 * 1073741824 + us.getD (j + m) 0) * BB ^ m + pre (us.drop j) m := by
    rw [show m + 3 = (m + 2) + 1 by omega, XY, show m + 2 = (m + 1) + 1 by omega, XY, XY, Int.pow_succ, Int.pow_succ, getD_drop, getD_drop, getD_drop]; simp only [BB]; grind
  have c0 := Zn hu j; have c1 := Zn (hu.drop j) m; have c2 := hu.get (j + (m + 2)); have c3 := hu.get (j + (m + 1)); have c4 := hu.get (j + m); have pj := Bpos j
  have hUV : pre (us.drop j) (m + 3) < val vs * 1073741824 := by
    have h1 : BB ^ j * pre (us.drop j) (m + 3) < BB ^ j * (val vs * 1073741824) := by
      have : val vs * BB ^ (j + 1) = BB ^ j * (val vs * 1073741824) := by rw [Int.pow_succ]; simp only [BB]; grind
      omega
    exact Int.lt_of_mul_lt_mul_left h1 (by omega)
  have hi : us.getD (j + (m + 2)) 0 ≤ vs.getD (m + 1) 0 := by
    have h1 : us.getD (j + (m + 2)) 0 * (1073741824 * 1073741824 * BB ^ m) ≤ pre (us.drop j) (m + 3) := by
      rw [u2]; have : 0 ≤ (us.getD (j + (m + 1)) 0 * 1073741824 + us.getD (j + m) 0) * BB ^ m := Int.mul_nonneg (by omega) (by have := Bpos m; omega)
      have e : (us.getD (j + (m + 2)) 0 * 1073741824 * 1073741824 + us.getD (j + (m + 1)) 0 * 1073741824 + us.getD (j + m) 0) * BB ^ m = us.getD (j + (m + 2)) 0 * (1073741824 * 1073741824 * BB ^ m) + (us.getD (j + (m + 1)) 0 * 1073741824 + us.getD (j + m) 0) * BB ^ m := by grind
      omega
    have h2 : val vs * 1073741824 < (vs.getD (m + 1) 0 + 1) * (1073741824 * 1073741824 * BB ^ m) := by
      rw [v2]
      have e : (vs.getD (m + 1) 0 + 1) * (1073741824 * 1073741824 * BB ^ m) = ((vs.getD (m + 1) 0 * 1073741824 + 1073741824) * BB ^ m) * 1073741824 := by grind
      rw [e]; have : (vs.getD (m + 1) 0 * 1073741824 + vs.getD m 0 + 1) * BB ^ m ≤ (vs.getD (m + 1) 0 * 1073741824 + 1073741824) * BB ^ m := Int.mul_le_mul_of_nonneg_right (by simp only [BB] at b3; omega) (by have := Bpos m; omega)
      have e5 : (vs.getD (m + 1) 0 * 1073741824 + vs.getD m 0 + 1) * BB ^ m = (vs.getD (m + 1) 0 * 1073741824 + vs.getD m 0) * BB ^ m + BB ^ m := by grind
      omega
    have h3 : us.getD (j + (m + 2)) 0 * (1073741824 * 1073741824 * BB ^ m) < (vs.getD (m + 1) 0 + 1) * (1073741824 * 1073741824 * BB ^ m) := by omega
    have h4 : (0 : Int) ≤ 1073741824 * 1073741824 * BB ^ m := by have := Bpos m; omega
    have := Int.lt_of_mul_lt_mul_right h3 h4; omega
  have G := gs_good (P := BB ^ m) (h := us.getD (j + (m + 2)) 0) (n := us.getD (j + (m + 1)) 0) (t := us.getD (j + m) 0) (l := vs.getD (m + 1) 0) (s := vs.getD m 0) (a := pre (us.drop j) m) (b := pre vs m)
    (Bpos m) c1 b1 hld b3.1 c2.1 c3.1 c4.1 (by rw [← u2, ← v2]; exact hUV)
  rw [← u2, ← v2] at G; generalize gs (us.getD (j + (m + 2)) 0) (us.getD (j + (m + 1)) 0) (us.getD (j + m) 0) (vs.getD (m + 1) 0) (vs.getD m 0) = gg at *; obtain ⟨g1, g2, g3, g4⟩ := G; generalize pre (us.drop j) (m + 3) = U at *; refine ⟨hi, g1, g2, ?_, ?_, uz, vpos, vlt⟩
  · have := Int.mul_le_mul_of_nonneg_right g3 (Int.le_of_lt pj); rw [u1, Int.mul_comm (BB ^ j)]; omega
  · have : (U + 1) * BB ^ j ≤ (gg + 1) * val vs * BB ^ j := Int.mul_le_mul_of_nonneg_right (by omega) (Int.le_of_lt pj); rw [Int.add_mul, Int.one_mul] at this; rw [u1, Int.mul_comm (BB ^ j)]; omega
structure Win (us vs : List Int) (j : Nat) (f : Int) (lo hi : Int) (i : Nat) (zs : List Int) (c : Int) : Prop where
  len : zs.length = us.length
  ok : OKL zs
  same : ∀ p, p < j ∨ j + i ≤ p → zs.getD p 0 = us.getD p 0
  lo : lo ≤ c
  hi : c ≤ hi
  value : val zs + c * BB ^ (j + i) = val us + f * pre vs i * BB ^ j
theorem Win.zero {us vs : List Int} {j : Nat} {f lo hi : Int} (hu : OKL us) (h1 : lo ≤ 0) (h2 : 0 ≤ hi) : Win us vs j f lo hi 0 us 0 :=
  ⟨rfl, hu, fun _ _ => rfl, h1, h2, by rw [Xr]; simp⟩
theorem Win.step {us vs : List Int} {j : Nat} {f lo hi : Int} {i : Nat} {zs : List Int} {c : Int} (h : Win us vs j f lo hi i zs c) (hl : j + i < us.length)
    (h1 : lo ≤ (zs.getD (j + i) 0 + f * vs.getD i 0 + c) / 1073741824) (h2 : (zs.getD (j + i) 0 + f * vs.getD i 0 + c) / 1073741824 ≤ hi) :
    Win us vs j f lo hi (i + 1) (zs.set (j + i) ((zs.getD (j + i) 0 + f * vs.getD i 0 + c) % 1073741824)) ((zs.getD (j + i) 0 + f * vs.getD i 0 + c) / 1073741824) := by
  have hlz : j + i < zs.length := by rw [h.len]; exact hl
  refine ⟨by simp [h.len], h.ok.set _ (by simp only [BB]; omega), fun p hp => ?_, h1, h2, ?_⟩
  · rw [getD_set hlz, if_neg (by omega)]; exact h.same p (by omega)
  · have hv := h.value; have e := Int.mul_ediv_add_emod (zs.getD (j + i) 0 + f * vs.getD i 0 + c) 1073741824; rw [Ys hlz, XY, show j + (i + 1) = j + i + 1 by omega, Int.pow_succ, Int.pow_add]; rw [Int.pow_add] at hv; simp only [BB] at *; generalize (zs.getD (j + i) 0 + f * vs.getD i 0 + c) / 1073741824 = Q at *; generalize (zs.getD (j + i) 0 + f * vs.getD i 0 + c) % 1073741824 = M at *; generalize (1073741824 : Int) ^ i = I at *; generalize (1073741824 : Int) ^ j = J at *; generalize zs.getD (j + i) 0 = z at *; generalize vs.getD i 0 = y at *; generalize pre vs i = pv at *; generalize val zs = vz at *; generalize val us = vu at *
    grind
theorem Win.lt {us vs : List Int} {j n : Nat} {f lo hi : Int} {zs : List Int} {c : Int} (h : Win us vs j f lo hi (n + 1) zs c) (hz : ∀ p, j + n + 1 ≤ p → us.getD p 0 = 0) : 0 ≤ val zs ∧ val zs < BB ^ (j + n + 1) := by
  have : val zs = pre zs (j + n + 1) := val_of_zeros (fun p hp => by rw [h.same p (by omega)]; exact hz p hp); rw [this]; exact Zn h.ok _
theorem sub_done {V J W R c z : Int} (hW : V * J < W) (hlo : -(V * J) ≤ R) (hhi : R < V * J) (hz0 : 0 ≤ z) (hzW : z < W) (hc : c ≤ 0) (he : z + c * W = R) :
    (¬ c < 0 → z = R) ∧ (c < 0 → z = R + W ∧ R < 0) := by
  refine ⟨fun h => ?_, fun h => ?_⟩
  · have : c = 0 := by omega
    subst this; omega
  · have h1 : c = -1 := by
      by_cases h2 : c ≤ -2
      · have : c * W ≤ -2 * W := Int.mul_le_mul_of_nonneg_right h2 (by omega); omega
      · omega
    subst h1; omega
theorem add_done {V W R c z : Int} (hW : V < W) (hlo : -V ≤ R) (hhi : R < 0) (hz0 : 0 ≤ z) (hzW : z < W) (he : z + c * W = (R + W) + V) : z = R + V := by
  have h1 : c = 1 := by
    by_cases h2 : c ≤ 0
    · have : c * W ≤ 0 * W := Int.mul_le_mul_of_nonneg_right h2 (by omega); omega
    · by_cases h3 : 2 ≤ c
      · have : 2 * W ≤ c * W := Int.mul_le_mul_of_nonneg_right h3 (by omega); omega
      · omega
  subst h1; omega
end Go.Limbs
namespace Go.Proofs.YtdhmbgogmoaofaaGreat
open Go.Own Go.Limbs
attribute [local irreducible] St Ops Go.Own.Fin Ok OkF
theorem top_pos {b : Nat} (h : 0 < (limbs b).length) : 0 < (limbs b).getD ((limbs b).length - 1) 0 := by
  have h1 := (XQ b).get ((limbs b).length - 1)
  have h2 : (limbs b).getD ((limbs b).length - 1) 0 ≠ 0 := by
    intro he; have h2 := trim_last (ys := limbs b) (by omega) he; rw [trim_of_limbs] at h2; have h3 := trim_len ((limbs b).take ((limbs b).length - 1)); rw [h2] at h3; simp at h3; omega
  omega
theorem top_split {b : Nat} (h : 0 < (limbs b).length) : (b : Int) = pre (limbs b) ((limbs b).length - 1) + (limbs b).getD ((limbs b).length - 1) 0 * BB ^ ((limbs b).length - 1) := by
  rw [← XY, show (limbs b).length - 1 + 1 = (limbs b).length by omega, Zp]
theorem shifted_top {b : Nat} {k : Nat} (hk : k ≤ 30) (hn : 0 < (limbs b).length) (ht : (limbs b).getD ((limbs b).length - 1) 0 < 2 ^ (30 - k)) :
    (shl (limbs b) k).getD (limbs b).length 0 = 0 ∧ 0 < (shl (limbs b) k).getD ((limbs b).length - 1) 0 := by
  have hv := shl_val (limbs b) k (XQ b); rw [X7] at hv; have hs := top_split hn; have hp := top_pos hn; have hb := Zn (XQ b) ((limbs b).length - 1); have h2k : (0 : Int) < 2 ^ k := Int.pow_pos (by decide)
  have hlt : val (shl (limbs b) k) < BB ^ (limbs b).length := by
    rw [hv]
    have h1 : (b : Int) < 2 ^ (30 - k) * BB ^ ((limbs b).length - 1) := by
      have : ((limbs b).getD ((limbs b).length - 1) 0 + 1) * BB ^ ((limbs b).length - 1) ≤ 2 ^ (30 - k) * BB ^ ((limbs b).length - 1) := Int.mul_le_mul_of_nonneg_right (by omega) (Int.le_of_lt (Bpos _)); rw [Int.add_mul, Int.one_mul] at this; omega
    have h2 := Int.mul_lt_mul_of_pos_right h1 h2k
    have h3 : 2 ^ (30 - k) * BB ^ ((limbs b).length - 1) * 2 ^ k = BB ^ (limbs b).length := by
      have e := two_split hk
      have e2 : BB ^ (limbs b).length = BB ^ ((limbs b).length - 1) * BB := by rw [← Int.pow_succ]; congr 1; omega
      rw [e2]; show _ = BB ^ ((limbs b).length - 1) * (1073741824 : Int); rw [e]; grind
    omega
  refine ⟨zero_above (shl_ok _ _) hlt _ (Nat.le_refl _), ?_⟩; have h1 := (shl_ok (limbs b) k).get ((limbs b).length - 1); by_cases h0 : (shl (limbs b) k).getD ((limbs b).length - 1) 0 = 0
  · exfalso; have e1 := val_pre_of (shl_ok (limbs b) k) hlt; rw [show (limbs b).length = ((limbs b).length - 1) + 1 by omega, XY, h0] at e1; have e2 := Zn (shl_ok (limbs b) k) ((limbs b).length - 1)
    have e3 : BB ^ ((limbs b).length - 1) ≤ (b : Int) := by
      have : 1 * BB ^ ((limbs b).length - 1) ≤ (limbs b).getD ((limbs b).length - 1) 0 * BB ^ ((limbs b).length - 1) := Int.mul_le_mul_of_nonneg_right (by omega) (Int.le_of_lt (Bpos _)); omega
    have e4 : (b : Int) * 1 ≤ b * 2 ^ k := Int.mul_le_mul_of_nonneg_left (by omega) (by omega); omega
  · omega
theorem first_lt {a b : Nat} {k : Nat} (hn : 0 < (limbs b).length) (hl : (limbs b).length ≤ (limbs a).length) :
    val (shl (limbs a) k) < val (shl (limbs b) k) * BB ^ ((limbs a).length - (limbs b).length + 1) := by
  rw [shl_val _ _ (XQ a), shl_val _ _ (XQ b), X7, X7]; have hs := top_split hn; have hp := top_pos hn; have hb := Zn (XQ b) ((limbs b).length - 1); have ha := Zn (XQ a) (limbs a).length; rw [Zp] at ha; have h2k : (0 : Int) < 2 ^ k := Int.pow_pos (by decide)
  have e3 : BB ^ ((limbs b).length - 1) ≤ (b : Int) := by
    have : 1 * BB ^ ((limbs b).length - 1) ≤ (limbs b).getD ((limbs b).length - 1) 0 * BB ^ ((limbs b).length - 1) := Int.mul_le_mul_of_nonneg_right (by omega) (Int.le_of_lt (Bpos _)); omega
  have e4 := Int.mul_le_mul_of_nonneg_right e3 (Int.le_of_lt (Bpos ((limbs a).length - (limbs b).length + 1))); rw [← Int.pow_add, show (limbs b).length - 1 + ((limbs a).length - (limbs b).length + 1) = (limbs a).length by omega] at e4
  have e5 : (a : Int) < b * BB ^ ((limbs a).length - (limbs b).length + 1) := by omega
  have e6 := Int.mul_lt_mul_of_pos_right e5 h2k
  have e7 : (b : Int) * BB ^ ((limbs a).length - (limbs b).length + 1) * 2 ^ k = b * 2 ^ k * BB ^ ((limbs a).length - (limbs b).length + 1) := by grind
  omega
theorem gd_bd {g y c z : Int} (hg0 : 0 ≤ g) (hg : g ≤ 1073741823) (hy0 : 0 ≤ y) (hy : y < 1073741824) (hz0 : 0 ≤ z) (hz : z < 1073741824) (hc0 : -1073741824 ≤ c) (hc : c ≤ 0) :
    0 ≤ g * y ∧ g * y ≤ 1152921502459363329 ∧ -1073741824 ≤ (z - g * y + c) / 1073741824 ∧ (z - g * y + c) / 1073741824 ≤ 0 := by
  have h1 : 0 ≤ g * y := Int.mul_nonneg hg0 hy0; have h2 : g * y ≤ 1073741823 * 1073741823 := Int.mul_le_mul hg (by omega) hy0 (by omega); exact ⟨h1, by omega, by omega, by omega⟩
theorem fin_val {a b k : Nat} {A Q : Int} (hb : 0 < b) (hA : 0 ≤ A) (hlt : A < b * 2 ^ k) (hi : A + Q * (b * 2 ^ k) = a * 2 ^ k) : Q = ((a / b : Nat) : Int) ∧ A = (((a % b) * 2 ^ k : Nat) : Int) := by
  have h2k : (0 : Int) < 2 ^ k := Int.pow_pos (by decide)
  have e : A = ((a : Int) - Q * b) * 2 ^ k := by grind
  have h0 : 0 ≤ (a : Int) - Q * b := by
    by_cases h : 0 ≤ (a : Int) - Q * b
    · exact h
    · have : ((a : Int) - Q * b) * 2 ^ k < 0 := Int.mul_neg_of_neg_of_pos (by omega) h2k; omega
  have h1 : (a : Int) - Q * b < b := by
    have : ((a : Int) - Q * b) * 2 ^ k < b * 2 ^ k := by omega
    exact Int.lt_of_mul_lt_mul_right this (by omega)
  have h2 : (a : Int) / b = Q ∧ (a : Int) % b = a - Q * b := by
    rw [Int.ediv_emod_unique (by omega)]; refine ⟨?_, h0, h1⟩; rw [Int.mul_comm (b : Int)]; omega
  refine ⟨by rw [Int.natCast_ediv]; exact h2.1.symm, ?_⟩; rw [e, Int.natCast_mul, Int.natCast_emod, h2.2, Int.natCast_pow]; rfl
theorem shr_limbs (r k : Nat) (hk : k ≤ 30) : trimL (shrL k (limbs (r * 2 ^ k))) = limbs r := by
  rw [Xt (shrL_ok _ _), val_shrL hk _ (XQ _), X7, Int.natCast_mul, Int.natCast_pow]
  congr 1
  have h2k : (2 : Int) ^ k ≠ 0 := by have : (0 : Int) < 2 ^ k := Int.pow_pos (by decide); omega
  show ((r : Int) * 2 ^ k / 2 ^ k).toNat = r; rw [Int.mul_ediv_cancel _ h2k]; simp
theorem trim_take {us : List Int} {n : Nat} (h : OKL us) (hv : val us < BB ^ n) : trimL (us.take n) = limbs (val us).toNat := by
  rw [Xt (h.take n)]
  congr 2
  exact (val_pre_of h hv).symm
set_option maxHeartbeats 16000000 in
theorem DivMod_big (a b : Nat) (hb : 2 ≤ (limbs b).length) (hab : b ≤ a) (hl : (limbs a).length ≤ 256) : Ok Tryz.prog 151 [natC a, natC b] (.fr (tupT [natC (a / b), natC (a % b), intC 0])) := by
  have hlab : (limbs b).length ≤ (limbs a).length := Xu hab; have htp := top_pos (b := b) (by omega); have htb := (XQ b).get ((limbs b).length - 1); simp only [BB] at htb; obtain ⟨tp, htq⟩ : ∃ tp : Nat, (limbs b).getD ((limbs b).length - 1) 0 = tp := ⟨((limbs b).getD ((limbs b).length - 1) 0).toNat, by omega⟩; have hbn := bln_spec (n := tp) (by omega) (by omega); obtain ⟨k, hk⟩ : ∃ k, bln tp = 30 - k ∧ k ≤ 30 := ⟨30 - bln tp, by omega, by omega⟩; have hk30 := hk.2
  have htop : (limbs b).getD ((limbs b).length - 1) 0 < 2 ^ (30 - k) := by
    rw [htq, ← hk.1]
    have : ((2 ^ bln tp : Nat) : Int) = (2 : Int) ^ bln tp := by rw [Int.natCast_pow]; rfl
    omega
  have hst := shifted_top hk30 (by omega) htop; have hfl := first_lt (k := k) (b := b) (by omega) hlab; have hUl := shl_len (limbs a) k hk30 (XQ a); have hVl := shl_len (limbs b) k hk30 (XQ b); have hUok := shl_ok (limbs a) k; have hVok := shl_ok (limbs b) k; have hUv := shl_val (limbs a) k (XQ a); have hVv := shl_val (limbs b) k (XQ b); rw [X7] at hUv hVv; have hAok := shifted_ok (limbs a) k hk30 (XQ a) (by omega); have hBok := shifted_ok (limbs b) k hk30 (XQ b) (by omega); generalize shl (limbs a) k = U0 at *; generalize shl (limbs b) k = V at *; have eN : ((limbs b).length : Int).toNat = (limbs b).length := Int.toNat_natCast _; generalize hN : (limbs b).length = n at *; generalize hLA : (limbs a).length = la at *
  refine Ok.enter Tryz.func151 Y _ Tryz.ntmps151 Y ?_
  intro S w; refine Qy (Qx fun K hK => ?_); refine Qj Y Y Y (Qj Y Y Y (Qj Y Y Y (Qv (hK _ _ (Qz (Qy ?_)))))); clear hK K; refine Qx (fun K hK => ?_); refine Qq Y Y Y (QX gotrim (trim_ok _ (by omega)) Y Y Y Y ?_); rw [trim_of_limbs]; refine Qj Y Y Y (Qv (hK _ _ (Qz (Qy ?_)))); clear hK K; refine Qx (fun K hK => ?_); refine Qq Y Y Y (Q3 Y Y sNat.und (List.length_map ..) Y (Qj Y Y Y (Qv (hK _ _ (Qz (Qy (Q4 (Qy ?_)))))))); clear hK K; refine Qx (fun K hK => ?_); refine Qq Y Y Y (Qk ieql Y Y Y Y (Qj Y Y Y (Qv (hK _ _ (Qz ?_))))); clear hK K; rw [hN]; refine Q1 Y (fun h => by exfalso; omega) (fun h => ?_); clear h; refine Qy (Qx fun K hK => ?_); refine Qq Y Y Y (Qq Y Y Y (QX goCompare (Compare_ok a b (by omega) (by omega)) Y Y Y Y ?_)); refine Qk ilss Y Y Y Y (Qj Y Y Y (Qv (hK _ _ (Qz ?_)))); clear hK K; refine Q1 Y (fun h => ?_) (fun h => ?_)
  · exfalso; rw [cmpI_eq] at h; split at h
    · omega
    · split at h <;> omega
  clear h; refine Qy (Qx fun K hK => ?_); refine Qq Y Y Y (Qk ieql Y Y Y Y (Qj Y Y Y (Qv (hK _ _ (Qz ?_))))); clear hK K; refine Q1 Y (fun h => by exfalso; omega) (fun h => ?_); clear h; refine Q0 (Qz (Qy (Qx fun K hK => ?_))); refine Qq Y Y Y (Qq Y Y Y (Qk (isub (by omega) (by omega)) Y Y Y Y ?_))
  refine Qc Y Y Y sNat (by omega) (Xw (by omega) (by omega)) Y ?_
  refine Ql Y Y Y lInt Y ?_
  rw [show ((n : Int) - 1).toNat = n - 1 by omega, htq]
  refine Zf (q := (tp : Int)) Y Y uIntB uUintB (wrap_u (by omega) (by omega)) Y ?_
  refine QX goLen (Len_ok tp (by omega)) Y Y Y Y ?_
  refine Qk (isub (by omega) (by omega)) Y Y Y Y ?_
  refine Qj Y Y Y (Qv (hK _ _ (Qz (Qy ?_)))); clear hK K; refine Qx (fun K hK => ?_); refine Qq Y Y Y (Qq Y Y Y ?_); rw [show (30 : Int) - (bln tp : Int) = (k : Int) by omega]; skip; refine Ops.callFr 0 goshifted hAok Y Y Y Y Y Y (Qq Y Y Y (Qq Y Y Y (Ops.callFr 1 goshifted hBok Y Y Y Y Y Y (Qj Y Y Y (Qj Y Y Y (Qv (hK _ _ (Qz (Qy ?_))))))))); clear hK K; refine Qx (fun K hK => ?_); refine Qq Y Y Y (Q3 Y Y sNat.und (List.length_map ..) Y (Qq Y Y Y (Qk (isub (by omega) (by omega)) Y Y Y Y ?_)))
  refine Qk (iadd (by omega) (by omega)) Y Y Y Y ?_
  rw [hLA]
  refine Z5 2 (la - n + 1) Y Y Y (by omega) sNat (by omega) (by omega) Y Y Y ?_
  rw [ints_made]; refine Qj Y Y Y (Qv (hK _ _ (Qz (Qy (Qy ?_))))); clear hK K; refine Qx (fun K hK => ?_); refine Qq Y Y Y (Q3 Y Y sNat.und (List.length_map ..) Y (Qq Y Y Y (Qk (isub (by omega) (by omega)) Y Y Y Y ?_))); refine Qj Y Y Y (Qv (hK _ _ (Qz (Q4 ?_)))); clear hK K; rw [hLA]
  refine Qn (α := Nat × List Int × List Int) (fun s => s.1 ≤ la - n + 1 ∧ s.2.1.length = la + 1 ∧ OKL s.2.1 ∧ val s.2.1 < val V * BB ^ s.1 ∧ s.2.2.length = la - n + 1 ∧ OKL s.2.2 ∧ (∀ p, p < s.1 → s.2.2.getD p 0 = 0) ∧ val s.2.1 + val s.2.2 * val V = val U0)
    (fun s => [(0, .ct (natC a)), (1, .ct (natC b)), (7, .ct (intC n)), (10, .ct (intC k)), (11, .own 0), (12, .own 1), (13, .own 2), (14, .ct (intC ((s.1 : Int) - 1)))])
    (fun s => [(2, .row 3 1 (ints s.2.2)), (1, .row 3 1 (ints V)), (0, .row 3 1 (ints s.2.1))])
    (fun s => s.1) (la - n + 1, U0, List.replicate (la - n + 1) 0) ⟨Nat.le_refl _, by dsimp only; omega, hUok, hfl, by simp, OKL.zeros _, ?_, ?_⟩ (by exact QJ Y ⟨rfl, rfl, rfl, rfl, rfl, rfl, rfl, by show _ = some (Sl.ct (intC (((la - n + 1 : Nat) : Int) - 1))); rw [show (((la - n + 1 : Nat) : Int) - 1) = (la : Int) - n by omega]; rfl, trivial⟩) ?_
  · intro p _; simp [List.getD_eq_getElem?_getD, List.getElem?_replicate]; split <;> rfl
  · dsimp only; rw [YZ]; simp
  rintro ⟨J, us, qs⟩ ⟨hJ, hul, huok, hult, hql, hqok, hqz, hinv⟩
  dsimp only at hJ hul huok hult hql hqok hqz hinv ⊢; refine Qy (Qy (Qx fun K hK => ?_)); refine Qq Y Y Y (Qk igeq Y Y Y Y (Qv (hK _ _ (Qz ?_)))); clear hK K; refine Q1 Y (fun h => ?_) (fun h => ?_)
  · obtain ⟨j, rfl⟩ : ∃ j, J = j + 1 := ⟨J - 1, by omega⟩
    have ej : (((j + 1 : Nat) : Int) - 1) = (j : Int) := by omega
    rw [ej]; have W := win (n := n) (j := j) huok hVok (by omega) (by omega) hst.1 hst.2 hult; have c1 := huok.get (j + n); have c2 := huok.get (j + n - 1); have c3 := huok.get (j + n - 2); have c4 := hVok.get (n - 1); have c5 := hVok.get (n - 2); simp only [BB] at c1 c2 c3 c4 c5
    have i1 : ((j : Int) + n).toNat * 1 = j + n := by omega
    have i2 : ((j : Int) + n - 1).toNat * 1 = j + n - 1 := by omega
    have i3 : ((j : Int) + n - 2).toNat * 1 = j + n - 2 := by omega
    have i4 : ((n : Int) - 1).toNat * 1 = n - 1 := by omega
    have i5 : ((n : Int) - 2).toNat * 1 = n - 2 := by omega
    refine Q0 (Qz (Qy (Q4 (Qy ?_)))); refine Xz mixed 32 (.p 0 (.p 1 (.p 2 (.p 3 (.p 4 (.p 6 (.p 7 (.p 8 (.p 9 (.p 10 (.p 11 (.p 13 (.p 14 (.p 15 (.p 16 (.p 17 (.p 18 (.p 20 (.p 21 (.p 22 (.p 23 (.p 25 (.p 26 (.p 27 (.p 28 (.f 5 (.f 12 (.f 19 (.f 24 (.f 29 (.m 30 (.p 31 .done)))))))))))))))))))))))))))))))) (by kernel_rfl) (fun K hK => ?_); refine Qq Y Y Y (Qq Y Y Y (Qq Y Y Y (Qk (iadd (by omega) (by omega)) Y Y Y Y ?_)))
    refine XX (la + 1) Y Y Y (by simp; omega) Y sNat (by omega) (by omega) Y ?_
    rw [i1]; refine Qq Y Y Y (Qq Y Y Y (Qq Y Y Y (Qk (iadd (by omega) (by omega)) Y Y Y Y ?_)))
    refine Qk (isub (by omega) (by omega)) Y Y Y Y ?_
    refine XX (la + 1) Y Y Y (by simp; omega) Y sNat (by omega) (by omega) Y ?_
    rw [i2]; refine Qq Y Y Y (Qq Y Y Y (Qq Y Y Y (Qk (iadd (by omega) (by omega)) Y Y Y Y ?_)))
    refine Qk (isub (by omega) (by omega)) Y Y Y Y ?_
    refine XX (la + 1) Y Y Y (by simp; omega) Y sNat (by omega) (by omega) Y ?_
    rw [i3]; refine Qq Y Y Y (Qq Y Y Y (Qk (isub (by omega) (by omega)) Y Y Y Y ?_))
    refine XX (n + 1) Y Y Y (by simp; omega) Y sNat (by omega) (by omega) Y ?_
    rw [i4]; refine Qq Y Y Y (Qq Y Y Y (Qk (isub (by omega) (by omega)) Y Y Y Y ?_))
    refine XX (n + 1) Y Y Y (by simp; omega) Y sNat (by omega) (by omega) Y ?_
    rw [i5]; skip
    refine QK Y Y Y Y (Xs (by omega)) lInt Y ?_
    refine QK Y Y Y Y (Xs (by omega)) lInt Y ?_
    refine QK Y Y Y Y (Xs (by omega)) lInt Y ?_
    refine QK Y Y Y Y (Xs (by omega)) lInt Y ?_
    refine QK Y Y Y Y (Xs (by omega)) lInt Y ?_
    refine QX goguess (guess_ok _ _ _ _ _ c1.1 W.1 hst.2 c4.2 c2.1 c2.2 c3.1 c3.2 c5.1 c5.2) Y Y Y Y ?_
    generalize gs (us.getD (j + n) 0) (us.getD (j + n - 1) 0) (us.getD (j + n - 2) 0) (V.getD (n - 1) 0) (V.getD (n - 2) 0) = gg at *; obtain ⟨-, g1, g2, g3, g4, uz, vpos, vlt⟩ := W
    have hVJ : val V * BB ^ j < BB ^ (j + n + 1) := by
      have h1 : val V * BB ^ j < BB ^ n * BB ^ j := Int.mul_lt_mul_of_pos_right vlt (Bpos _)
      have h2 : BB ^ n * BB ^ j ≤ BB ^ (j + n + 1) := by
        rw [← Int.pow_add, show j + n + 1 = (n + j) + 1 by omega, Int.pow_succ]; have := Bpos (n + j); simp only [BB] at *; omega
      omega
    have hRlo : -(val V * BB ^ j) ≤ val us - gg * val V * BB ^ j := by
      have : (gg - 1) * val V * BB ^ j = gg * val V * BB ^ j - val V * BB ^ j := by grind
      omega
    have hRhi : val us - gg * val V * BB ^ j < val V * BB ^ j := by
      have : (gg + 1) * val V * BB ^ j = gg * val V * BB ^ j + val V * BB ^ j := by grind
      omega
    refine Qj Y Y Y (Qv (hK _ _ (Qz (Qy ?_)))); clear hK K; refine Qx (fun K hK => ?_); refine Qj Y Y Y (Qv (hK _ _ (Qz (Qy (Qy ?_))))); clear hK K; refine Qx (fun K hK => ?_); refine Qq Y Y Y (Qk (iadd (by omega) (by omega)) Y Y Y Y ?_); refine Qq Y Y Y (Qv (hK _ _ (Qz (Q4 ?_)))); clear hK K
    refine Qn (α := Nat × List Int × Int) (fun s => s.1 ≤ n + 1 ∧ Win us V j (-gg) (-1073741824) 0 s.1 s.2.1 s.2.2)
      (fun s => [(0, .ct (natC a)), (1, .ct (natC b)), (7, .ct (intC n)), (10, .ct (intC k)), (11, .own 0), (12, .own 1), (13, .own 2), (14, .ct (intC j)), (15, .ct (intC gg)), (16, .ct (intC s.2.2)), (113, .ct (intC ((n : Int) + 1))), (114, .ct (intC s.1))])
      (fun s => [(2, .row 3 1 (ints qs)), (1, .row 3 1 (ints V)), (0, .row 3 1 (ints s.2.1))])
      (fun s => n + 1 - s.1) (0, us, 0) ⟨Nat.zero_le _, Win.zero huok (by decide) (by decide)⟩ (by exact QJ Y ⟨rfl, rfl, rfl, rfl, rfl, rfl, rfl, rfl, rfl, rfl, rfl, rfl, trivial⟩) ?_
    · rintro ⟨i, zs, c⟩ ⟨hi, HW⟩
      dsimp only at hi HW ⊢; have hzl := HW.len; refine Qy (Qx fun K hK => ?_); refine Qk ilss Y Y Y Y (Qv (hK _ _ (Qz (Qy ?_)))); clear hK K; refine Q1 Y (fun h2 => ?_) (fun h2 => ?_)
      · have d1 := HW.ok.get (j + i); have d2 := hVok.get i; simp only [BB] at d1 d2; have d3 := HW.lo; have d4 := HW.hi; have GB := gd_bd g1 g2 d2.1 d2.2 d1.1 d1.2 d3 d4
        have k1 : ((j : Int) + i).toNat * 1 = j + i := by omega
        have k2 : (i : Int).toNat * 1 = i := by omega
        refine Q0 (Qz (Qy (Q4 (Qy (Qx fun K hK => ?_))))); refine Qq Y Y Y (Qj Y Y Y (Qv (hK _ _ (Qz (Qy ?_))))); clear hK K; refine Xz mixed 16 (.p 0 (.p 1 (.p 2 (.p 3 (.p 4 (.p 6 (.p 7 (.p 8 (.p 9 (.p 13 (.f 5 (.f 10 (.p 11 (.p 12 (.p 14 (.p 15 .done)))))))))))))))) (by kernel_rfl) (fun K hK => ?_); refine Qq Y Y Y (Qq Y Y Y (Qq Y Y Y (Qk (iadd (by omega) (by omega)) Y Y Y Y ?_)))
        refine XX (la + 1) Y Y Y (by simp; omega) Y sNat (by omega) (by omega) Y ?_
        rw [k1]; refine Qq Y Y Y (Qq Y Y Y (Qq Y Y Y (XX (n + 1) Y Y Y (by simp; omega) Y sNat (by omega) (by omega) Y ?_))); rw [k2]; refine Qq Y Y Y (QK Y Y Y Y (Xs (by omega)) lInt Y ?_)
        refine QK Y Y Y Y (Xs (by omega)) lInt Y ?_
        refine Qk (imul (by omega) (by omega)) Y Y Y Y ?_
        refine Qk (isub (by omega) (by omega)) Y Y Y Y ?_
        refine Qk (iadd (by omega) (by omega)) Y Y Y Y ?_
        refine Qj Y Y Y (Qv (hK _ _ (Qz ?_))); clear hK K; refine Qx (fun K hK => ?_); refine Qq Y Y Y (Qq Y Y Y (Qq Y Y Y (Qk (iadd (by omega) (by omega)) Y Y Y Y ?_))); refine Qq Y Y Y (Qk iand30 Y Y Y Y (Qq Y Y Y (Qk ishr30 Y Y Y Y ?_))); skip
        refine XX (la + 1) Y Y Y (by simp; omega) Y sNat (by omega) (by omega) Y ?_
        rw [k1]
        refine Xv Y Y Y Y Y zInt (by simp [Ent.cs]; omega) ?_
        simp only [Ent.setc, ZV]; refine Qj Y Y Y (Qv (hK _ _ (Qz ?_))); clear hK K; refine Qx (fun K hK => ?_)
        refine Qk (iadd (by omega) (by omega)) Y Y Y Y ?_
        refine Qq Y Y Y (Qv (hK _ _ (Q7 ?_))); clear hK K
        have ef : zs.getD (j + i) 0 - gg * V.getD i 0 + c = zs.getD (j + i) 0 + -gg * V.getD i 0 + c := by rw [Int.neg_mul]; omega
        have HS := HW.step (by omega) (by rw [← ef]; exact GB.2.2.1) (by rw [← ef]; exact GB.2.2.2); rw [← ef] at HS; refine Qb (i + 1, _, _) (by dsimp only; omega) ⟨by dsimp only; omega, HS⟩ (by exact QJ Y ⟨rfl, rfl, rfl, rfl, rfl, rfl, rfl, rfl, rfl, rfl, rfl, by simp only [Int.natCast_add]; rfl, trivial⟩)
      · have hi' : i = n + 1 := by omega
        subst hi'; have hzr := HW.lt uz; have hval := HW.value; rw [Zv (xs := V) (by omega), show j + (n + 1) = j + n + 1 by omega] at hval
        have hR2 : val zs + c * BB ^ (j + n + 1) = val us - gg * val V * BB ^ j := by rw [hval, Int.neg_mul, Int.neg_mul]; omega
        have SD := sub_done hVJ hRlo hRhi hzr.1 hzr.2 HW.hi hR2; refine Qm (Qz (Qy (Qy (Qx fun K hK => ?_)))); refine Qq Y Y Y (Qk ilss Y Y Y Y (Qv (hK _ _ (Qz ?_)))); clear hK K; refine Q1 Y (fun h3 => ?_) (fun h3 => ?_)
        · obtain ⟨s1, s2⟩ := SD.2 h3; have hus0 := Yk huok
          have gpos : 1 ≤ gg := by
            by_cases h0 : gg = 0
            · subst h0; simp at s2; omega
            · omega
          have zz : ∀ p, j + n + 1 ≤ p → zs.getD p 0 = 0 := fun p hp => by rw [HW.same p (by omega)]; exact uz p hp
          have hzok := HW.ok; clear HW hval hR2 SD; refine Qy (Qx fun K hK => ?_); refine Qq Y Y Y (Qk (isub (by omega) (by omega)) Y Y Y Y ?_); refine Qj Y Y Y (Qj Y Y Y (Qv (hK _ _ (Qz (Qy ?_))))); clear hK K; refine Qx (fun K hK => ?_); refine Qq Y Y Y (Qk (iadd (by omega) (by omega)) Y Y Y Y ?_); refine Qq Y Y Y (Qv (hK _ _ (Qz (Q4 ?_)))); clear hK K
          refine Qn (α := Nat × List Int × Int) (fun s => s.1 ≤ n + 1 ∧ Win zs V j 1 0 1 s.1 s.2.1 s.2.2)
            (fun s => [(0, .ct (natC a)), (1, .ct (natC b)), (7, .ct (intC n)), (10, .ct (intC k)), (11, .own 0), (12, .own 1), (13, .own 2), (14, .ct (intC j)), (15, .ct (intC (gg - 1))), (16, .ct (intC s.2.2)), (147, .ct (intC ((n : Int) + 1))), (148, .ct (intC s.1))])
            (fun s => [(2, .row 3 1 (ints qs)), (1, .row 3 1 (ints V)), (0, .row 3 1 (ints s.2.1))])
            (fun s => n + 1 - s.1) (0, zs, 0) ⟨Nat.zero_le _, Win.zero hzok (by decide) (by decide)⟩ (by exact QJ Y ⟨rfl, rfl, rfl, rfl, rfl, rfl, rfl, rfl, rfl, rfl, rfl, rfl, trivial⟩) ?_
          rintro ⟨i, ys, c'⟩ ⟨hi, HW⟩
          dsimp only at hi HW ⊢; have hyl := HW.len; refine Qy (Qx fun K hK => ?_); refine Qk ilss Y Y Y Y (Qv (hK _ _ (Qz (Qy ?_)))); clear hK K; refine Q1 Y (fun h4 => ?_) (fun h4 => ?_)
          · have d1 := HW.ok.get (j + i); have d2 := hVok.get i; simp only [BB] at d1 d2; have d3 := HW.lo; have d4 := HW.hi
            have k1 : ((j : Int) + i).toNat * 1 = j + i := by omega
            have k2 : (i : Int).toNat * 1 = i := by omega
            refine Q0 (Qz (Qy (Q4 (Qy (Qx fun K hK => ?_))))); refine Qq Y Y Y (Qj Y Y Y (Qv (hK _ _ (Qz (Qy ?_))))); clear hK K; refine Xz mixed 14 (.p 0 (.p 1 (.p 2 (.p 3 (.p 4 (.p 6 (.p 7 (.p 8 (.p 11 (.f 5 (.f 9 (.p 10 (.p 12 (.p 13 .done)))))))))))))) (by kernel_rfl) (fun K hK => ?_); refine Qq Y Y Y (Qq Y Y Y (Qq Y Y Y (Qk (iadd (by omega) (by omega)) Y Y Y Y ?_)))
            refine XX (la + 1) Y Y Y (by simp; omega) Y sNat (by omega) (by omega) Y ?_
            rw [k1]; refine Qq Y Y Y (Qq Y Y Y (XX (n + 1) Y Y Y (by simp; omega) Y sNat (by omega) (by omega) Y ?_)); rw [k2]; refine Qq Y Y Y (QK Y Y Y Y (Xs (by omega)) lInt Y ?_)
            refine QK Y Y Y Y (Xs (by omega)) lInt Y ?_
            refine Qk (iadd (by omega) (by omega)) Y Y Y Y ?_
            refine Qk (iadd (by omega) (by omega)) Y Y Y Y ?_
            refine Qj Y Y Y (Qv (hK _ _ (Qz ?_))); clear hK K; refine Qx (fun K hK => ?_); refine Qq Y Y Y (Qq Y Y Y (Qq Y Y Y (Qk (iadd (by omega) (by omega)) Y Y Y Y ?_))); refine Qq Y Y Y (Qk iand30 Y Y Y Y (Qq Y Y Y (Qk ishr30 Y Y Y Y ?_))); skip
            refine XX (la + 1) Y Y Y (by simp; omega) Y sNat (by omega) (by omega) Y ?_
            rw [k1]
            refine Xv Y Y Y Y Y zInt (by simp [Ent.cs]; omega) ?_
            simp only [Ent.setc, ZV]; refine Qj Y Y Y (Qv (hK _ _ (Qz ?_))); clear hK K; refine Qx (fun K hK => ?_)
            refine Qk (iadd (by omega) (by omega)) Y Y Y Y ?_
            refine Qq Y Y Y (Qv (hK _ _ (Q7 ?_))); clear hK K
            have ef : ys.getD (j + i) 0 + V.getD i 0 + c' = ys.getD (j + i) 0 + 1 * V.getD i 0 + c' := by omega
            have HS := HW.step (by omega) (by rw [← ef]; omega) (by rw [← ef]; omega); rw [← ef] at HS; refine Qb (i + 1, _, _) (by dsimp only; omega) ⟨by dsimp only; omega, HS⟩ (by exact QJ Y ⟨rfl, rfl, rfl, rfl, rfl, rfl, rfl, rfl, rfl, rfl, rfl, by simp only [Int.natCast_add]; rfl, trivial⟩)
          · have hi' : i = n + 1 := by omega
            subst hi'; have hyr := HW.lt zz; have hval := HW.value; rw [Zv (xs := V) (by omega), show j + (n + 1) = j + n + 1 by omega, Int.one_mul, s1] at hval; have AD := add_done hVJ hRlo s2 hyr.1 hyr.2 hval; have hyok := HW.ok
            have k3 : (j : Int).toNat * 1 = j := by omega
            clear HW hval; refine Qm (Qz (Qx fun K hK => ?_)); refine Qq Y Y Y (Qq Y Y Y (Qq Y Y Y (XX (la - n + 1) Y Y Y (by simp; omega) Y sNat (by omega) (by omega) Y ?_))); rw [k3]
            refine Xv Y Y Y Y Y zInt (by simp [Ent.cs]; omega) ?_
            simp only [Ent.setc, ZV]; refine Qv (hK _ _ (Qz ?_)); clear hK K; refine Qx (fun K hK => ?_); refine Qq Y Y Y (Qk (isub (by omega) (by omega)) Y Y Y Y ?_); refine Qj Y Y Y (Qv (hK _ _ (Q7 ?_))); clear hK K; refine Qb (j, ys, qs.set j (gg - 1)) (by dsimp only; omega) ⟨by dsimp only; omega, by dsimp only; omega, hyok, ?_, by simp [hql], hqok.set _ (by simp only [BB]; omega), ?_, ?_⟩ (by exact QJ Y ⟨rfl, rfl, rfl, rfl, rfl, rfl, rfl, rfl, trivial⟩)
            all_goals dsimp only
            · omega
            · intro p hp; rw [getD_set (by omega), if_neg (by omega)]; exact hqz p (by omega)
            · rw [AD, Ys (by omega), hqz j (by omega), ← hinv]; grind
        · have s1 := SD.1 h3; have hzok := HW.ok
          have k3 : (j : Int).toNat * 1 = j := by omega
          clear HW hval hR2 SD; refine Q0 (Qz (Qx fun K hK => ?_)); refine Qq Y Y Y (Qq Y Y Y (Qq Y Y Y (XX (la - n + 1) Y Y Y (by simp; omega) Y sNat (by omega) (by omega) Y ?_))); rw [k3]
          refine Xv Y Y Y Y Y zInt (by simp [Ent.cs]; omega) ?_
          simp only [Ent.setc, ZV]; refine Qv (hK _ _ (Qz ?_)); clear hK K; refine Qx (fun K hK => ?_); refine Qq Y Y Y (Qk (isub (by omega) (by omega)) Y Y Y Y ?_); refine Qj Y Y Y (Qv (hK _ _ (Q7 ?_))); clear hK K; refine Qb (j, zs, qs.set j gg) (by dsimp only; omega) ⟨by dsimp only; omega, by dsimp only; omega, hzok, ?_, by simp [hql], hqok.set _ (by simp only [BB]; omega), ?_, ?_⟩ (by exact QJ Y ⟨rfl, rfl, rfl, rfl, rfl, rfl, rfl, rfl, trivial⟩)
          all_goals dsimp only
          · omega
          · intro p hp; rw [getD_set (by omega), if_neg (by omega)]; exact hqz p (by omega)
          · rw [s1, Ys (by omega), hqz j (by omega), ← hinv]; grind
  · have hJ0 : J = 0 := by omega
    subst hJ0
    have hb0 : 0 < b := by
      rcases Nat.eq_zero_or_pos b with h0 | h0
      · subst h0; rw [limbs_zero] at hN; simp at hN; omega
      · exact h0
    rw [Int.pow_zero, Int.mul_one] at hult; have FV := fin_val (k := k) (a := a) hb0 (Yk huok) (by rw [← hVv]; exact hult) (by rw [← hVv, ← hUv]; exact hinv)
    have hVn : val V < BB ^ n := by
      have e := val_of_zeros (xs := V) (p := n) (fun p hp => by
        rcases Nat.eq_or_lt_of_le hp with rfl | hp
        · exact hst.1
        · exact getD_ge (by omega))
      rw [e]; exact (Zn hVok n).2
    have ht := trim_take (n := n) huok (by omega); rw [FV.2, Int.toNat_natCast] at ht
    have hqs : trimL qs = limbs (a / b) := by rw [Xt hqok, FV.1, Int.toNat_natCast]
    have hrl : (limbs (a % b * 2 ^ k)).length ≤ n := by rw [← ht]; exact Nat.le_trans (trim_len _) (by simp; omega)
    have hsh := shr_limbs (a % b) k hk30; have hsl := shrL_len k (limbs (a % b * 2 ^ k)); have hrok := XQ (a % b * 2 ^ k); have hsg := shrL_get k (limbs (a % b * 2 ^ k)); clear hfl hinv hult hUv hVv hbn htop; refine X6 0 _ Y (X1 _ _) XV (Qm (Qz (Qy (Qx fun K hK => ?_)))); refine Qq Y Y Y (Qq Y Y Y (Ops.cutHi Y Y Y sNat (by omega) (by rw [List.length_map]; omega) Y ?_)); rw [← List.map_take, eN]
    refine QX gotrim (trim_ok _ (by simp; omega)) Y Y Y Y ?_
    rw [ht]; generalize limbs (a % b * 2 ^ k) = rs at *; generalize shrL k rs = ss at *; refine Qj Y Y Y (Qv (hK _ _ (Qz (Qy ?_)))); clear hK K; refine Qx (fun K hK => ?_); refine Qq Y Y Y (Q3 Y Y sNat.und (List.length_map ..) Y (Z5 0 rs.length Y Y Y Y sNat (by omega) (by omega) Y Y Y ?_)); rw [ints_made]; refine Qj Y Y Y (Qv (hK _ _ (Qz (Qy (Qy ?_))))); clear hK K; refine Qx (fun K hK => ?_); refine Qq Y Y Y (Q3 Y Y sNat.und (List.length_map ..) Y (Qk (isub (by omega) (by omega)) Y Y Y Y ?_)); refine Qj Y Y Y (Qv (hK _ _ (Qz (Q4 ?_)))); clear hK K
    refine Qn (α := Nat × List Int) (fun s => s.1 ≤ rs.length ∧ s.2.length = rs.length ∧ (∀ p, s.1 ≤ p → s.2.getD p 0 = ss.getD p 0))
      (fun s => [(10, .ct (intC k)), (13, .own 2), (21, .ct (intsC rs)), (22, .own 0), (23, .ct (intC ((s.1 : Int) - 1)))])
      (fun s => [(0, .row 3 1 (ints s.2)), (2, .row 3 1 (ints qs)), (1, .row 3 1 (ints V))])
      (fun s => s.1) (rs.length, List.replicate rs.length 0) ⟨Nat.le_refl _, by simp, ?_⟩ (by exact QJ Y ⟨rfl, rfl, rfl, rfl, rfl, trivial⟩) ?_
    · intro p hp; dsimp only at hp ⊢; rw [getD_ge (by simp; omega), getD_ge (by omega)]
    rintro ⟨J, zs⟩ ⟨hJ, hzl, hz⟩
    dsimp only at hJ hzl hz ⊢; refine Qy (Qy (Qx fun K hK => ?_)); refine Qq Y Y Y (Qk igeq Y Y Y Y (Qv (hK _ _ (Qz ?_)))); clear hK K; refine Q1 Y (fun h => ?_) (fun h => ?_)
    · obtain ⟨i, rfl⟩ : ∃ i, J = i + 1 := ⟨J - 1, by omega⟩
      have ej : (((i + 1 : Nat) : Int) - 1) = (i : Int) := by omega
      rw [ej]; have d1 := hrok.get i; have d2 := hrok.get (i + 1); simp only [BB] at d1 d2; have k1 : (i : Int).toNat = i := Int.toNat_natCast i
      have k2 : (i : Int).toNat * 1 = i := by omega
      have k3 : ((i : Int) + 1).toNat = i + 1 := by omega
      refine Q0 (Qz (Qy (Q4 ?_))); refine Xz mixed 16 (.p 0 (.p 1 (.p 2 (.p 3 (.p 4 (.p 7 (.p 8 (.p 9 (.p 12 (.f 10 (.m 5 (.p 6 (.p 11 (.p 13 (.p 14 (.p 15 (.a 16 .done))))))))))))))))) (by kernel_rfl) (fun K hK => ?_); refine Qq Y Y Y (Qq Y Y Y (Qq Y Y Y (Qq Y Y Y (Qk (iadd (by omega) (by omega)) Y Y Y Y ?_)))); refine Qq Y Y Y (Qq Y Y Y (Qc Y Y Y sNat (by omega) (Xw (by omega) (by omega)) Y ?_)); refine Qq Y Y Y (Ql Y Y Y lInt Y ?_); rw [k1]
      refine QX goat (at_ok rs _ (by omega)) Y Y Y Y ?_
      rw [k3]
      refine Qk (ishl30 (by omega) (by omega)) Y Y Y Y ?_
      skip
      refine Qk (ior30 (by omega) (by omega) (by omega) (by omega)) Y Y Y Y ?_
      refine Qk (ishr k Y (by omega)) Y Y Y Y ?_
      refine Qk iand30 Y Y Y Y (XX rs.length Y Y Y (by simp; omega) Y sNat (by omega) (by omega) Y ?_); rw [k2]
      refine Xv Y Y Y Y Y zInt (by simp [Ent.cs]; omega) ?_
      simp only [Ent.setc, ZV]; refine Qv (hK _ _ (Qz ?_)); clear hK K; refine Qx (fun K hK => ?_); refine Qq Y Y Y (Qk (isub (by omega) (by omega)) Y Y Y Y ?_); refine Qj Y Y Y (Qv (hK _ _ (Q7 ?_))); clear hK K; refine Qb (i, _) (by dsimp only; omega) ⟨by dsimp only; omega, ?_, ?_⟩ (by exact QJ Y ⟨rfl, rfl, rfl, rfl, rfl, trivial⟩)
      · simp [hzl]
      · intro p hp; dsimp only at hp ⊢; rw [getD_set (by omega)]; split
        · rename_i e; subst e; exact (hsg i (by omega)).symm
        · exact hz p (by omega)
    · have hJ0 : J = 0 := by omega
      subst hJ0
      have hzs : zs = ss := by
        apply List.ext_getElem (by omega)
        intro p h1 h2; have := hz p (Nat.zero_le _)
        simpa [List.getD_eq_getElem?_getD, h1, h2] using this
      subst hzs; refine X6 0 _ Y (X1 _ _) XV (X6 2 _ Y (X1 _ _) XV (Qm (Qz (Qy (Qx fun K hK => ?_))))); refine Qq Y Y Y (QX gotrim (trim_ok _ (by omega)) Y Y Y Y ?_); rw [hqs]; refine Qq Y Y Y (QX gotrim (trim_ok _ (by omega)) Y Y Y Y ?_); rw [hsh]; refine Qj Y Y Y (Qj Y Y Y (Qj Y Y Y (Qv (hK _ _ (Qz (QU ?_)))))); clear hK K; refine QY [_, _, _] rfl (Qu Y (Qu Y (Qu Y QQ))) Y Y
end Go.Proofs.YtdhmbgogmoaofaaGreat
namespace Go.Proofs.YtdhmbgogmoaofaaGreat
open Go.Own Go.Limbs
theorem uBool : Tryz.prog.underlying 4 = some .bool := Tryz.underlying4
theorem zvFrac : (Tryz.prog.info? 38).map (·.zero) = some (some (.agg #[.bool false, .slice none 0 0, .slice none 0 0])) := by kernel_rfl
theorem fF0 : fldInfo Tryz.prog 38 0 = some (0, some 1) := by kernel_rfl
theorem fF1 : fldInfo Tryz.prog 38 1 = some (1, some 1) := by kernel_rfl
theorem fF2 : fldInfo Tryz.prog 38 2 = some (2, some 1) := by kernel_rfl
theorem fR0 : fldInfo Tryz.prog 57 0 = some (0, some 1) := by kernel_rfl
theorem fR1 : fldInfo Tryz.prog 57 1 = some (1, some 1) := by kernel_rfl
theorem Qg : LdN Tryz.prog 38 3 := LdN.of _ Tryz.underlying38 rfl (by kernel_rfl)
theorem lRow : LdN Tryz.prog 57 2 := LdN.of _ Tryz.underlying57 rfl (by kernel_rfl)
theorem szFrac : (Tryz.prog.info? 38).map (·.size) = some 3 := by kernel_rfl
theorem szRow : (Tryz.prog.info? 57).map (·.size) = some 2 := by kernel_rfl
theorem bFrac : bInfo Tryz.prog 38 = some (.agg #[.bool false, .slice none 0 0, .slice none 0 0], [(0, some 1), (1, some 1), (2, some 1)]) := by kernel_rfl
theorem sFracs : SlcT Tryz.prog 25 38 3 56 (.agg #[.bool false, .slice none 0 0, .slice none 0 0]) := SlcT.of Tryz.underlying25 (by kernel_rfl) rfl (by decide)
theorem sRows : SlcT Tryz.prog 23 57 2 32 (.agg #[.slice none 0 0, .int .i64 0]) := SlcT.of Tryz.underlying23 (by kernel_rfl) rfl (by decide)
structure Fr where
  neg : Bool
  num : Nat
  den : Nat
abbrev frCs (f : Fr) : List CT := [boolC f.neg, natC f.num, natC f.den]
abbrev fracC (f : Fr) : CT := .fr (aggT (frCs f))
abbrev fracsC (fs : List Fr) : CT := .fr (sliceT 3 (fs.map frCs))
abbrev frac0 : CT := .fr (aggT [boolC false, .ex (.slice none 0 0), .ex (.slice none 0 0)])
attribute [local irreducible] Go.Own.Fin Ok Ops St
theorem all_take_succ {xs : List Int} {p : Int → Bool} {i : Nat} (h : i < xs.length) : (xs.take (i + 1)).all p = ((xs.take i).all p && p (xs.getD i 0)) := by
  rw [List.take_succ_eq_append_getElem h, List.all_append]; simp [List.getD_eq_getElem?_getD, List.getElem?_eq_getElem h]
theorem all_false {xs : List Int} {p : Int → Bool} {i : Nat} (h : i < xs.length) (hp : p (xs.getD i 0) = false) : xs.all p = false := by
  rw [List.all_eq_false]; refine ⟨xs[i], List.getElem_mem h, ?_⟩
  have : xs.getD i 0 = xs[i] := by simp [List.getD_eq_getElem?_getD, List.getElem?_eq_getElem h]
  rw [← this, hp]; simp
theorem bad2 {x : Int} (h : x < 0 ∨ BB ≤ x) : (decide (0 ≤ x) && decide (x < BB)) = false := by
  rw [Bool.and_eq_false_iff, decide_eq_false_iff_not, decide_eq_false_iff_not]; omega
theorem good2 {x : Int} (h1 : 0 ≤ x) (h2 : x < BB) : (true && (decide (0 ≤ x) && decide (x < BB))) = true := by
  rw [Bool.true_and, Bool.and_eq_true, decide_eq_true_eq, decide_eq_true_eq]; omega
set_option maxHeartbeats 2000000 in
theorem Valid_ok (xs : List Int) (hl : xs.length < 4611686018427387904) : Ok Tryz.prog 120 [intsC xs] (boolC (validL xs)) := by
  refine Ok.enter Tryz.func120 J _ Tryz.ntmps120 J ?_
  intro S w; refine Qy (Qx fun K hK => ?_); refine Qj J J J (Qv (hK _ _ ?_)); refine Qz (Qy (Qy (Qx fun K hK => ?_))); refine Qq J J J (Q3 J J sNat.und (List.length_map ..) J (Qq J J J (Qv (hK _ _ ?_)))); refine Qz (Q4 ?_)
  refine Qn (α := Nat) (fun i => i ≤ xs.length ∧ (xs.take i).all (fun x => decide (0 ≤ x) && decide (x < BB)) = true)
    (fun i => [(0, .ct (intsC xs)), (5, .ct (intsC xs)), (6, .ct (intC xs.length)), (7, .ct (intC i))]) (fun _ => []) (fun i => xs.length - i) 0 ⟨Nat.zero_le _, rfl⟩ (by exact QJ J ⟨rfl, rfl, rfl, rfl, trivial⟩) ?_
  intro i ⟨hi, hv⟩; dsimp only; refine Qy (Qx fun K hK => ?_); refine Qk ilss J J J J (Qv (hK _ _ ?_)); refine Qz (Qy ?_); refine Q1 J (fun h => ?_) (fun h => ?_)
  · have e2 : (i : Int).toNat = i := Int.toNat_natCast i
    have hlt : i < xs.length := by omega
    have hbad : (decide (0 ≤ xs.getD i 0) && decide (xs.getD i 0 < BB)) = false → validL xs = false := fun hp => by
      unfold validL; rw [all_false (p := fun x => decide (0 ≤ x) && decide (x < BB)) hlt hp]; rfl
    refine Q0 (Qz (Qy (Q4 (Qy (Qx fun K hK => ?_)))))
    refine Qc J J J sNat (by omega) (Xw (by omega) (by omega)) J ?_
    refine Ql J J J lInt J (Qj J J J (Qv (hK _ _ ?_))); refine Qz (Qy (Qx fun K hK => ?_)); refine Qq J J J (Qk ilss J J J J (Qq J J J ?_)); rw [e2]; skip; refine Qi 13 J (fun h2 => ?_) (fun h2 => ?_)
    · refine Qw J J J (Qw J J J (Q6 J J J J (Qv (hK _ _ ?_)))); refine Qz (Xq J (Qy (Qx fun K hK => ?_))); refine Qj J J J (Qv (hK _ _ ?_)); refine Qz (QU (Q5 (QV (QV (Q5 (QV ?_)))))); refine QY [_] rfl (Qu J QQ) (by rw [hbad (bad2 (by unfold BB; omega))]; rfl) J
    · refine Qq J J J (Qk igeq J J J J (Q2 J J J J (Qv (hK _ _ ?_)))); refine Qz (Q1 J (fun h3 => ?_) (fun h3 => ?_))
      · refine Qy (Qx fun K hK => ?_); refine Qj J J J (Qv (hK _ _ ?_)); refine Qz (QU (Q5 (QV (QV (Q5 (QV ?_)))))); refine QY [_] rfl (Qu J QQ) (by rw [hbad (bad2 (by unfold BB; omega))]; rfl) J
      · refine Q0 (Qz (Qx fun K hK => ?_))
        refine Qk (iadd (by omega) (by omega)) J J J J ?_
        refine Qq J J J (Qv (hK _ _ ?_)); refine Q7 (Qb (i + 1) (by omega) ⟨by omega, ?_⟩ (by exact QJ J ⟨rfl, rfl, rfl, by simp only [Int.natCast_add]; rfl, trivial⟩)); rw [all_take_succ hlt, hv]; exact good2 (by omega) (by unfold BB; omega)
  · have hi' : i = xs.length := by omega
    rw [hi', List.take_length] at hv
    have e : validL xs = (decide (xs.length ≤ 256) && (decide (xs.length = 0) || decide (xs.getD (xs.length - 1) 0 ≠ 0))) := by unfold validL; rw [hv]; simp
    clear h; refine Qm (Qz (Qy (Qx fun K hK => ?_))); refine Qq J J J (Q3 J J sNat.und (List.length_map ..) J (Qk ileq J J J J (Qq J J J (Qi 21 J (fun h2 => ?_) (fun h2 => ?_)))))
    · refine Qq J J J (Q3 J J sNat.und (List.length_map ..) J (Qk ieql J J J J (Qq J J J (Qi 25 J (fun h3 => ?_) (fun h3 => ?_)))))
      · refine Qw J J J (Qw J J J (Qw J J J (Qw J J J (Qw J J J (Qw J J J (Qw J J J (Q6 J J J J (Q6 J J J J (Qj J J J (Qv (hK _ _ ?_))))))))))); refine Qz (QU ?_); refine QY [_] rfl (Qu J QQ) (by rw [e, show decide (xs.length ≤ 256) = true by simp; omega, show decide (xs.length = 0) = true by rw [decide_eq_true_eq]; omega]; rfl) J
      · have e1 : ((xs.length : Int) - 1).toNat = xs.length - 1 := by omega
        refine Qq J J J (Qq J J J (Q3 J J sNat.und (List.length_map ..) J (Qk (isub (by omega) (by omega)) J J J J ?_)))
        refine Qc J J J sNat (by omega) (Xw (by omega) (by omega)) J ?_
        refine Ql J J J lInt J (Qk ineq J J J J (Q2 J J J J (Q6 J J J J (Qj J J J (Qv (hK _ _ ?_)))))); refine Qz (QU ?_); rw [e1]; skip; refine QY [_] rfl (Qu J QQ) (by rw [e, show decide (xs.length ≤ 256) = true by simp; omega, show decide (xs.length = 0) = false by simp; intro h4; subst h4; simp at h3]; rfl) J
    · refine Qw J J J (Qw J J J (Qw J J J (Qw J J J (Qw J J J (Qw J J J (Qw J J J (Qw J J J (Qw J J J (Qw J J J (Qw J J J (Qw J J J (Q2 J J J J (Qj J J J (Qv (hK _ _ ?_))))))))))))))); refine Qz (QU ?_); refine QY [_] rfl (Qu J QQ) (by rw [e, show decide (xs.length ≤ 256) = false by simp; omega]; rfl) J
theorem goValid : InGo Tryz.prog 120 := InGo.of Tryz.func120 (by kernel_rfl) (by kernel_rfl)
theorem Valid1_ok (xs : List Int) (hl : xs.length < 4611686018427387904) : Ok Tryz.prog 119 [intsC xs] (boolC (validL xs && decide (xs.length ≤ 64))) := by
  refine Ok.enter Tryz.func119 J _ Tryz.ntmps119 J ?_
  intro S w; refine Qy (Qx fun K hK => ?_); refine Qj J J J (Qv (hK _ _ ?_)); refine Qz (Qy (Qx fun K hK => ?_)); refine Qq J J J (QX goValid (Valid_ok xs hl) J J J J (Qq J J J (Xe 5 J (fun h => ?_) (fun h => ?_))))
  · refine Qq J J J (Q3 J J sNat.und (List.length_map ..) J (Qk ileq J J J J (Q6 J J J J (Qj J J J (Qv (hK _ _ ?_)))))); refine Qz (QU ?_); refine QY [_] rfl (Qu J QQ) (by rw [h, Bool.true_and, show decide (xs.length ≤ 64) = decide ((xs.length : Int) ≤ 64) by rw [decide_eq_decide]; omega]; rfl) J
  · refine Qw J J J (Qw J J J (Qw J J J (Q2 J J J J (Qj J J J (Qv (hK _ _ ?_)))))); refine Qz (QU ?_); refine QY [_] rfl (Qu J QQ) (by rw [h, Bool.false_and]; rfl) J
theorem goValid1 : InGo Tryz.prog 119 := InGo.of Tryz.func119 (by kernel_rfl) (by kernel_rfl)
def fvalidL (neg : Bool) (xs ys : List Int) : Bool := (validL xs && decide (xs.length ≤ 64)) && (validL ys && decide (ys.length ≤ 64)) && decide (0 < ys.length) && !(neg && decide (xs.length = 0))
set_option maxHeartbeats 2000000 in
theorem Zl (neg : Bool) (xs ys : List Int) (hx : xs.length < 4611686018427387904) (hy : ys.length < 4611686018427387904) : Ok Tryz.prog 64 [.fr (aggT [boolC neg, intsC xs, intsC ys])] (boolC (fvalidL neg xs ys)) := by
  refine Ok.enter Tryz.func64 J _ Tryz.ntmps64 J ?_
  intro S w; have e0 : fvalidL neg xs ys = ((validL xs && decide (xs.length ≤ 64)) && (validL ys && decide (ys.length ≤ 64)) && decide (0 < ys.length) && !(neg && decide (xs.length = 0))) := rfl; have h1 := Valid1_ok xs hx; have h2 := Valid1_ok ys hy; generalize (validL xs && decide (xs.length ≤ 64)) = b1 at e0 h1; generalize (validL ys && decide (ys.length ≤ 64)) = b2 at e0 h2; generalize fvalidL neg xs ys = r at *; refine Qy (Qx fun K hK => ?_); refine Qh 0 J J J J J J J (Qj J J J (Qv (hK _ _ ?_))); refine Qz (Qy (Qx fun K hK => ?_)); refine Qj J J J (Qv (hK _ _ ?_)); refine Qz (Qy (Qx fun K hK => ?_)); refine Qq J J J (QW J J J fF1 J (QK J J J J J lNat J (Ops.callF goValid1 J h1 J J J J (Qq J J J (Xe 8 J (fun h => ?_) (fun h => ?_))))))
  · refine Qq J J J (QW J J J fF2 J (QK J J J J J lNat J (Ops.callF goValid1 J h2 J J J J (Q6 J J J J (Qq J J J (Xe 14 J (fun h3 => ?_) (fun h3 => ?_)))))))
    · refine QW J J J fF2 J (QK J J J J J lNat J (Q3 J J sNat.und (List.length_map ..) J (Qk igtr J J J J (Q6 J J J J (Qq J J J (Qi 20 J (fun h4 => ?_) (fun h4 => ?_)))))))
      · refine QW J J J fF0 J (QK J J J J J lBool J (Qq J J J (Xe 23 J (fun h5 => ?_) (fun h5 => ?_))))
        · refine QW J J J fF1 J (QK J J J J J lNat J (Q3 J J sNat.und (List.length_map ..) J (Qk ieql J J J J (Q6 J J J J (Qe J J J (Q6 J J J J (Qj J J J (Qv (hK _ _ ?_))))))))); refine Qz (QU ?_); refine QY [_] rfl (Qu J QQ) (by rw [e0, h, h3, h5, show decide (0 < ys.length) = true by rw [decide_eq_true_eq]; omega, show decide (xs.length = 0) = decide ((xs.length : Int) = 0) by rw [decide_eq_decide]; omega]; rfl) J
        · refine Qw J J J (Qw J J J (Qw J J J (Qw J J J (Q2 J J J J (Qe J J J (Q6 J J J J (Qj J J J (Qv (hK _ _ ?_))))))))); refine Qz (QU ?_); refine QY [_] rfl (Qu J QQ) (by rw [e0, h, h3, h5, show decide (0 < ys.length) = true by rw [decide_eq_true_eq]; omega]; rfl) J
      · refine Qw J J J (Qw J J J (Qw J J J (Qw J J J (Qw J J J (Qw J J J (Qw J J J (Qw J J J (Qw J J J (Q2 J J J J (Qj J J J (Qv (hK _ _ ?_)))))))))))); refine Qz (QU ?_); refine QY [_] rfl (Qu J QQ) (by rw [e0, h, h3, show decide (0 < ys.length) = false by rw [decide_eq_false_iff_not]; omega]; rfl) J
    · refine Qw J J J (Qw J J J (Qw J J J (Qw J J J (Q2 J J J J (Qq J J J (Qw J J J (Qw J J J (Qw J J J (Qw J J J (Qw J J J (Qw J J J (Qw J J J (Qw J J J (Qw J J J (Q2 J J J J (Qj J J J (Qv (hK _ _ ?_)))))))))))))))))); refine Qz (QU ?_); refine QY [_] rfl (Qu J QQ) (by rw [e0, h3, Bool.and_false]; rfl) J
  · refine Qw J J J (Qw J J J (Qw J J J (Qw J J J (Q2 J J J J (Qq J J J (Qw J J J (Qw J J J (Qw J J J (Qw J J J (Q2 J J J J (Qq J J J (Qw J J J (Qw J J J (Qw J J J (Qw J J J (Qw J J J (Qw J J J (Qw J J J (Qw J J J (Qw J J J (Q2 J J J J (Qj J J J (Qv (hK _ _ ?_)))))))))))))))))))))))); refine Qz (QU ?_); refine QY [_] rfl (Qu J QQ) (by rw [e0, h]; rfl) J
theorem Yx : InGo Tryz.prog 64 := InGo.of Tryz.func64 (by kernel_rfl) (by kernel_rfl)
theorem limbs_len_pos {n : Nat} : 0 < (limbs n).length ↔ n ≠ 0 := by
  constructor
  · intro h h0; subst h0; rw [limbs_zero] at h; simp at h
  · intro h; rw [limbs_pos h]; simp
theorem limbs_len_posI {n : Nat} : decide ((limbs n).length > (0 : Int)) = decide (n ≠ 0) := by
  rw [decide_eq_decide, ← limbs_len_pos]; omega
theorem goAdd : InGo Tryz.prog 153 := InGo.of Tryz.func153 (by kernel_rfl) (by kernel_rfl)
set_option maxHeartbeats 2000000 in
theorem magnitude_ok (n : Int) (h1 : -9223372036854775808 ≤ n) (h2 : n ≤ 9223372036854775807) : Ok Tryz.prog 114 [intC n] (natC n.natAbs) := by
  refine Ok.enter Tryz.func114 rfl _ Tryz.ntmps114 rfl ?_
  intro S w
  (refine Qy (Qx fun K hK => ?_); refine Qj rfl rfl rfl ?_; refine Qv (hK _ _ (Qz (Qy (Qy ?_)))); clear hK K; refine Qx (fun K hK => ?_); refine Qq rfl rfl rfl ?_; refine Qk ineq rfl rfl rfl rfl ?_; refine Qv (hK _ _ (Qz ?_)); clear hK K)
  refine Q1 rfl (fun h => ?_) (fun h => ?_)
  · (refine Qy (Qx fun K hK => ?_); refine Qq rfl rfl rfl ?_; refine Qq rfl rfl rfl ?_)
    refine Ops.ineg rfl rfl (by omega) (by omega) rfl ?_
    (refine Ops.max2 rfl rfl rfl rfl ?_; refine Qj rfl rfl rfl ?_; refine Qv (hK _ _ (Qz (Qy ?_))); clear hK K; refine Qx (fun K hK => ?_); refine Qq rfl rfl rfl ?_)
    rw [show max n (-n) = (n.natAbs : Int) by omega]
    refine QX goFrom (From_ok n.natAbs (by omega)) rfl rfl rfl rfl ?_
    (refine Qq rfl rfl rfl ?_; refine QZ rfl rfl rfl rfl ?_; refine QZ rfl rfl rfl rfl ?_; refine Qj rfl rfl rfl ?_; refine Qj rfl rfl rfl ?_; refine Qv (hK _ _ (Qz (Qy ?_))); clear hK K; refine Qx (fun K hK => ?_); refine Qq rfl rfl rfl ?_; refine Qj rfl rfl rfl ?_; refine Qv (hK _ _ (Qz (QU (QV ?_)))); clear hK K)
    refine QY [_] rfl (Qu rfl QQ) rfl rfl
  · (refine Q0 (Qz (Qy (Qx fun K hK => ?_))))
    refine QX goFrom (From_ok 4611686018427387904 (by omega)) rfl rfl rfl rfl ?_
    (refine Qq rfl rfl rfl ?_; refine QZ rfl rfl rfl rfl ?_; refine QZ rfl rfl rfl rfl ?_; refine Qj rfl rfl rfl ?_; refine Qj rfl rfl rfl ?_; refine Qv (hK _ _ (Qz (Qy ?_))); clear hK K; refine Qx (fun K hK => ?_); refine Qq rfl rfl rfl ?_; refine Qq rfl rfl rfl ?_)
    refine QX goAdd (Add_list _ _ ?_ ?_ (XQ _) (XQ _)) rfl rfl rfl rfl ?_
    · exact Nat.le_trans (Qf (k := 3) (by decide)) (by decide)
    · exact Nat.le_trans (Qf (k := 3) (by decide)) (by decide)
    rw [X7]
    (refine Qq rfl rfl rfl ?_; refine QZ rfl rfl rfl rfl ?_; refine QZ rfl rfl rfl rfl ?_; refine Qj rfl rfl rfl ?_; refine Qj rfl rfl rfl ?_; refine Qv (hK _ _ (Qz (Qy ?_))); clear hK K; refine Qx (fun K hK => ?_); refine Qq rfl rfl rfl ?_; refine Qj rfl rfl rfl ?_; refine Qv (hK _ _ (Qz (QU ?_))); clear hK K)
    refine QY [_] rfl (Qu rfl QQ) (by congr 1; have : n.natAbs = 9223372036854775808 := by omega
                                      rw [this]; rfl) rfl
theorem gomagnitude : InGo Tryz.prog 114 := InGo.of Tryz.func114 (by kernel_rfl) (by kernel_rfl)
theorem product_ok (a b : Nat) (h : (limbs a).length + (limbs b).length ≤ 256) : Ok Tryz.prog 116 [natC a, natC b] (natC (a * b)) := by
  refine Ok.enter Tryz.func116 J _ Tryz.ntmps116 J ?_
  intro S w; refine Qy (Qx fun K hK => ?_); refine Qj J J J (Qv (hK _ _ (Qz (Qy ?_)))); clear hK K; refine Qx (fun K hK => ?_); refine Qq J J J (Qq J J J (QX goMul (Mul_ok a b h) J J J J (Qq J J J (QZ J J J J (QZ J J J J (Qj J J J (Qj J J J (Qv (hK _ _ (Qz (Qy ?_))))))))))); clear hK K; refine Qx (fun K hK => ?_); refine Qq J J J (Qj J J J (Qv (hK _ _ (Qz (QU ?_))))); clear hK K; refine QY [_] rfl (Qu J QQ) J J
theorem goproduct : InGo Tryz.prog 116 := InGo.of Tryz.func116 (by kernel_rfl) (by kernel_rfl)
def sumN (n1 : Bool) (a : Nat) (n2 : Bool) (b : Nat) : Nat := if n1 = n2 then a + b else if a < b then b - a else a - b
def sumS (n1 : Bool) (a : Nat) (n2 : Bool) (b : Nat) : Bool := if n1 = n2 then n1 else if a < b then n2 else n1
set_option maxHeartbeats 2000000 in
theorem sum_ok (n1 : Bool) (a : Nat) (n2 : Bool) (b : Nat) (ha : (limbs a).length ≤ 200) (hb : (limbs b).length ≤ 200) : Ok Tryz.prog 117 [boolC n1, natC a, boolC n2, natC b] (.fr (tupT [boolC (sumS n1 a n2 b), natC (sumN n1 a n2 b)])) := by
  refine Ok.enter Tryz.func117 J _ Tryz.ntmps117 J ?_
  intro S w; refine Qy (Qx fun K hK => ?_); refine Qj J J J (Qj J J J (Qv (hK _ _ (Qz (Qy (Qy ?_)))))); clear hK K; refine Qx (fun K hK => ?_); refine Qq J J J (Qq J J J (Ops.beq J J J uBool J (Qv (hK _ _ (Qz ?_))))); clear hK K; refine Zz J (fun h => ?_) (fun h => ?_)
  · have h' : n1 = n2 := by simpa using h
    refine Qy (Qx fun K hK => ?_); refine Qq J J J (Qq J J J (QX goAdd (Add_list _ _ ha hb (XQ _) (XQ _)) J J J J ?_)); rw [X7, X7, show ((a : Int) + b).toNat = a + b by omega]; refine Qq J J J (QZ J J J J (QZ J J J J (Qj J J J (Qj J J J (Qv (hK _ _ (Qz (Qy ?_)))))))); clear hK K; refine Qx (fun K hK => ?_); refine Qq J J J (Qq J J J (Qj J J J (Qj J J J (Qv (hK _ _ (Qz (QU (QV ?_)))))))); clear hK K; refine QY [_, _] rfl (Qu J (Qu J QQ)) (by simp only [sumN, sumS, if_pos h']; rfl) J
  · have h' : ¬ n1 = n2 := by simpa using h
    refine Q0 (Qz (Qy (Qy (Qx fun K hK => ?_)))); refine Qq J J J (Qq J J J (QX goCompare (Compare_ok a b (by omega) (by omega)) J J J J ?_)); refine Qk ilss J J J J (Qv (hK _ _ (Qz ?_))); clear hK K; refine Q1 J (fun h3 => ?_) (fun h3 => ?_)
    · have hlt : a < b := by
        rw [cmpI_eq] at h3; split at h3
        · omega
        · split at h3 <;> omega
      refine Qx (fun K hK => ?_); refine Qq J J J (Qq J J J (Qq J J J (Qj J J J (Qj J J J (Qj J J J (Qv (hK _ _ (Qz (Qy ?_))))))))); clear hK K; refine Qx (fun K hK => ?_); refine Qq J J J (Qq J J J (QX goSub (Sub_ok b a (by omega) (by omega)) J J J J ?_)); refine Qq J J J (QZ J J J J (QZ J J J J (Qj J J J (Qj J J J (Qv (hK _ _ (Qz (Qy ?_)))))))); clear hK K; refine Qx (fun K hK => ?_); refine Qq J J J (Qq J J J (Qj J J J (Qj J J J (Qv (hK _ _ (Qz (QU ?_))))))); clear hK K; refine QY [_, _] rfl (Qu J (Qu J QQ)) (by simp only [sumN, sumS, if_neg h', if_pos hlt]; rfl) J
    · have hlt : ¬ a < b := by
        intro hl; rw [cmpI_eq, if_pos (by omega)] at h3; omega
      refine Q0 (Qz (Qy (Qx fun K hK => ?_))); refine Qq J J J (Qq J J J (QX goSub (Sub_ok a b (by omega) (by omega)) J J J J ?_)); refine Qq J J J (QZ J J J J (QZ J J J J (Qj J J J (Qj J J J (Qv (hK _ _ (Qz (Qy ?_)))))))); clear hK K; refine Qx (fun K hK => ?_); refine Qq J J J (Qq J J J (Qj J J J (Qj J J J (Qv (hK _ _ (Qz (QU ?_))))))); clear hK K; refine QY [_, _] rfl (Qu J (Qu J QQ)) (by simp only [sumN, sumS, if_neg h', if_neg hlt]; rfl) J
theorem gosum : InGo Tryz.prog 117 := InGo.of Tryz.func117 (by kernel_rfl) (by kernel_rfl)
def redF (neg : Bool) (a b : Nat) : Fr := ⟨neg && decide (a / Nat.gcd a b ≠ 0), a / Nat.gcd a b, b / Nat.gcd a b⟩
set_option maxHeartbeats 2000000 in
theorem reduced_small (neg : Bool) (a b : Nat) (h0 : 0 < b) (hb : b < 1073741824) (hl : (limbs a).length ≤ 256) : Ok Tryz.prog 113 [boolC neg, natC a, natC b] (fracC (redF neg a b)) := by
  have hg0 : 0 < Nat.gcd a b := Nat.gcd_pos_of_pos_right _ h0; have hg1 : Nat.gcd a b ≤ b := Nat.gcd_le_right _ h0; have hlb : (limbs b).length ≤ 1 := Qf (k := 1) (by omega)
  refine Ok.enter Tryz.func113 J _ Tryz.ntmps113 J ?_
  intro S w; have e0 : redF neg a b = ⟨neg && decide (a / Nat.gcd a b ≠ 0), a / Nat.gcd a b, b / Nat.gcd a b⟩ := rfl; rw [e0]; clear e0; have h1 := Gcd_small a b hb hl; generalize Nat.gcd a b = g at *; refine Qy (Qx fun K hK => ?_); refine Qa 0 J J zvFrac J J J (Qv (hK _ _ (Qz (Qy ?_)))); clear hK K; refine Qx (fun K hK => ?_); refine Qq J J J (Qq J J J (QX goGcd h1 J J J J (Qj J J J (Qv (hK _ _ (Qz (Qy ?_))))))); clear hK K; refine Qx (fun K hK => ?_); refine Qq J J J (Qq J J J (QX goDivMod (DivMod_small a g hg0 (by omega) hl) J J J J ?_)); refine Qq J J J (QZ J J J J (QZ J J J J (QZ J J J J (Qj J J J (Qj J J J (Qj J J J (Qv (hK _ _ (Qz (Qy ?_)))))))))); clear hK K; refine Qx (fun K hK => ?_); refine Qq J J J (Qq J J J (QX goDivMod (DivMod_small b g hg0 (by omega) (by omega)) J J J J ?_)); refine Qq J J J (QZ J J J J (QZ J J J J (QZ J J J J (Qj J J J (Qj J J J (Qj J J J (Qv (hK _ _ (Qz (Qy ?_)))))))))); clear hK K; refine Qx (fun K hK => ?_); refine Qq J J J (Qq J J J (Xe 32 J (fun h => ?_) (fun h => ?_)))
  · refine Qq J J J (Q3 J J sNat.und (List.length_map ..) J (Qk igtr J J J J (Q6 J J J J (Qq J J J (Qq J J J (Xa J bFrac J (.one J J J J (.one J J J J (.one J J J J .nil))) J (Q8 3 J J J J J szFrac J J (Qv (hK _ _ (Qz (QU ?_))))))))))); clear hK K; refine QY [_] rfl (Qp (n := 3) J J Qg J QQ) (by rw [← limbs_len_posI, h]; rfl) J
  · refine Qw J J J (Qw J J J (Qw J J J (Q2 J J J J (Qq J J J (Qq J J J (Xa J bFrac J (.one J J J J (.one J J J J (.one J J J J .nil))) J (Q8 3 J J J J J szFrac J J (Qv (hK _ _ (Qz (QU ?_))))))))))); clear hK K; refine QY [_] rfl (Qp (n := 3) J J Qg J QQ) (by rw [h]; rfl) J
theorem goreduced : InGo Tryz.prog 113 := InGo.of Tryz.func113 (by kernel_rfl) (by kernel_rfl)
theorem checked_ok (f : Fr) (hx : (limbs f.num).length ≤ 64) (hy : (limbs f.den).length ≤ 64) (hd : 0 < f.den) (hn : f.neg = true → f.num ≠ 0) : Ok Tryz.prog 115 [fracC f] (.fr (tupT [fracC f, intC 0])) := by
  refine Ok.enter Tryz.func115 J _ Tryz.ntmps115 J ?_
  intro S w
  have hv : fvalidL f.neg (limbs f.num) (limbs f.den) = true := by
    unfold fvalidL; rw [YY (by omega), YY (by omega)]; have := limbs_len_pos (n := f.den); have := limbs_len_pos (n := f.num); cases hh : f.neg
    · simp; omega
    · have := hn hh; simp; constructor
      · omega
      · intro h; exact this (limbs_nil h)
  have h1 := Zl f.neg (limbs f.num) (limbs f.den) (by omega) (by omega); rw [hv] at h1; refine Qy (Qx fun K hK => ?_); refine Qh 0 J J J J J J J (Qa 1 J J zvFrac J J J (Qj J J J (Qv (hK _ _ (Qz (Qy (Qy ?_))))))); clear hK K; refine Qx (fun K hK => ?_); refine Qd (n := 3) J J J J J Qg J (QX Yx h1 J J J J (Qe J J J (Qv (hK _ _ (Qz (Qr J (Q0 (Qz (Qy ?_))))))))); clear hK K; refine Qx (fun K hK => ?_); refine Qd (n := 3) J J J J J Qg J (Q8 3 J J J J J szFrac J J (Qj J J J (Qv (hK _ _ (Qz (QU ?_)))))); clear hK K; refine QY [_, _] rfl (Qp (n := 3) J J Qg J (Qu J QQ)) J J
theorem gochecked : InGo Tryz.prog 115 := InGo.of Tryz.func115 (by kernel_rfl) (by kernel_rfl)
end Go.Proofs.YtdhmbgogmoaofaaGreat
namespace Go.Proofs.YtdhmbgogmoaofaaGreat
open Go.Own Go.Limbs
def sg (n : Bool) (a : Nat) : Int := if n then -(a : Int) else a
def ofQ (q : Rat) : Fr := ⟨decide (q.num < 0), q.num.natAbs, q.den⟩
abbrev ratC (q : Rat) : CT := fracC (ofQ q)
theorem sg_natAbs (x : Int) : sg (decide (x < 0)) x.natAbs = x := by
  unfold sg; split
  · rename_i h; simp at h; omega
  · rename_i h; simp at h; omega
theorem natAbs_sg (n : Bool) (a : Nat) : (sg n a).natAbs = a := by unfold sg; split <;> omega
theorem Y4 (n : Bool) (a b : Nat) : sg n (a * b) = sg n a * b := by
  unfold sg; split
  · rw [Int.natCast_mul, Int.neg_mul]
  · rw [Int.natCast_mul]
theorem ofQ_sg (q : Rat) : sg (ofQ q).neg (ofQ q).num = q.num := sg_natAbs _
theorem redF_q (n : Bool) (a b : Nat) (hb : 0 < b) : redF n a b = ofQ (mkRat (sg n a) b) := by
  have hb' : b ≠ 0 := by omega
  have hg : 0 < Nat.gcd a b := Nat.gcd_pos_of_pos_right _ hb; rw [Rat.mkRat_def, dif_neg hb', Rat.normalize_eq]; unfold redF ofQ; simp only [natAbs_sg]; have hd : (Nat.gcd a b : Int) ∣ (a : Int) := Int.natCast_dvd_natCast.mpr (Nat.gcd_dvd_left a b)
  have e1 : (sg n a / (Nat.gcd a b : Int)) = sg n (a / Nat.gcd a b) := by
    unfold sg; split
    · rw [Int.neg_ediv_of_dvd hd, Int.natCast_ediv]
    · rw [Int.natCast_ediv]
  rw [e1, natAbs_sg]
  congr 1
  generalize a / Nat.gcd a b = c; unfold sg; cases n
  · simp
  · show (true && decide (c ≠ 0)) = decide (-(c : Int) < 0); rw [Bool.true_and, decide_eq_decide]; omega
theorem sum_sg (n1 : Bool) (a : Nat) (n2 : Bool) (b : Nat) : sg (sumS n1 a n2 b) (sumN n1 a n2 b) = sg n1 a + sg n2 b := by
  unfold sumS sumN sg
  by_cases h : a < b <;> cases n1 <;> cases n2 <;> simp [h] <;> omega
theorem add_redF (p q : Rat) : redF (sumS (ofQ p).neg ((ofQ p).num * (ofQ q).den) (ofQ q).neg ((ofQ q).num * (ofQ p).den)) (sumN (ofQ p).neg ((ofQ p).num * (ofQ q).den) (ofQ q).neg ((ofQ q).num * (ofQ p).den)) ((ofQ p).den * (ofQ q).den) = ofQ (p + q) := by
  rw [redF_q _ _ _ (Nat.mul_pos (show 0 < (ofQ p).den from p.den_pos) (show 0 < (ofQ q).den from q.den_pos)), sum_sg, Y4, Y4, ofQ_sg, ofQ_sg, Rat.add_def']; rfl
theorem mul_redF (p q : Rat) : redF ((ofQ p).neg != (ofQ q).neg) ((ofQ p).num * (ofQ q).num) ((ofQ p).den * (ofQ q).den) = ofQ (p * q) := by
  rw [redF_q _ _ _ (Nat.mul_pos (show 0 < (ofQ p).den from p.den_pos) (show 0 < (ofQ q).den from q.den_pos)), Rat.mul_def']
  have : sg ((ofQ p).neg != (ofQ q).neg) ((ofQ p).num * (ofQ q).num) = p.num * q.num := by
    rw [← ofQ_sg p, ← ofQ_sg q]
    cases (ofQ p).neg <;> cases (ofQ q).neg <;> simp [sg, Int.natCast_mul, Int.neg_mul, Int.mul_neg]
  rw [this]; rfl
theorem from_redF (n d : Int) (hd : d ≠ 0) : redF (decide (n < 0) != decide (d < 0)) n.natAbs d.natAbs = ofQ (Rat.divInt n d) := by
  rw [redF_q _ _ _ (by omega)]
  congr 1
  have e : sg (decide (n < 0) != decide (d < 0)) n.natAbs = if d < 0 then -n else n := by
    unfold sg
    by_cases h1 : n < 0 <;> by_cases h2 : d < 0 <;> simp [h1, h2] <;> omega
  rw [e]; rcases d with d | d
  · rw [if_neg (by simp)]; rfl
  · rw [if_pos (by omega)]; show mkRat (-n) (d + 1) = Rat.normalize (-n) (d + 1) (by omega); rw [Rat.normalize_eq_mkRat]
attribute [local irreducible] Go.Own.Fin Ok Ops St
def Sz (a : Nat) : Prop := (limbs a).length ≤ 30
theorem Sz.of {a : Nat} (h : a < 1073741824 ^ 30) : Sz a := Qf h
theorem mul_len {a b : Nat} {i j : Nat} (ha : (limbs a).length ≤ i) (hb : (limbs b).length ≤ j) : (limbs (a * b)).length ≤ i + j := by
  have := X2 (a := a) (b := b); omega
theorem sumN_len {n1 n2 : Bool} {a b i : Nat} (ha : (limbs a).length ≤ i) (hb : (limbs b).length ≤ i) : (limbs (sumN n1 a n2 b)).length ≤ i + 1 := by
  have h1 := XU ha; have h2 := XU hb
  refine Qf ?_
  rw [Nat.pow_succ]; unfold sumN; generalize 1073741824 ^ i = z at *; split
  · omega
  · split <;> omega
theorem div_len {a b i : Nat} (ha : (limbs a).length ≤ i) : (limbs (a / b)).length ≤ i := Nat.le_trans (Xu (Nat.div_le_self a b)) ha
theorem Y2 (n : Bool) (a b : Nat) (h0 : 0 < b) : 0 < (redF n a b).den ∧ (redF n a b).den ≤ b := by
  have hg : 0 < Nat.gcd a b := Nat.gcd_pos_of_pos_right _ h0; exact ⟨Nat.div_pos (Nat.gcd_le_right _ h0) hg, Nat.div_le_self _ _⟩
theorem redF_neg (n : Bool) (a b : Nat) : (redF n a b).neg = true → (redF n a b).num ≠ 0 := by
  unfold redF; generalize a / Nat.gcd a b = c; simp
theorem dne (p q : Bool) : decide (p ≠ q) = (p != q) := by cases p <;> cases q <;> rfl
set_option maxHeartbeats 2000000 in
theorem FFrom_ok (n d : Int) (h1 : -9223372036854775808 ≤ n) (h2 : n ≤ 9223372036854775807) (h3 : -1073741824 < d) (h4 : d < 1073741824) (h0 : d ≠ 0) : Ok Tryz.prog 58 [intC n, intC d] (.fr (tupT [ratC (Rat.divInt n d), intC 0])) := by
  have hl : (limbs n.natAbs).length ≤ 3 := Qf (k := 3) (by omega); rw [show ratC (Rat.divInt n d) = fracC (redF (decide (n < 0) != decide (d < 0)) n.natAbs d.natAbs) from by rw [from_redF n d h0]]
  refine Ok.enter Tryz.func58 J _ Tryz.ntmps58 J ?_
  intro S w; refine Qy (Qx fun K hK => ?_); refine Qa 0 J J zvFrac J J J (Qj J J J (Qv (hK _ _ (Qz (Qy (Qy ?_)))))); clear hK K; refine Qx (fun K hK => ?_); refine Qq J J J (Qk ieql J J J J (Qv (hK _ _ (Qz ?_)))); clear hK K; refine Q1 J (fun h => absurd h h0) (fun h => ?_); refine Q0 (Qz (Qy (Qx fun K hK => ?_))); refine Qq J J J (Qk ilss J J J J (Qq J J J (Qk ilss J J J J (YX J J J uBool J ?_)))); rw [dne]; refine Qq J J J (QX gomagnitude (magnitude_ok n h1 h2) J J J J (Qq J J J (QX gomagnitude (magnitude_ok d (by omega) (by omega)) J J J J ?_)))
  refine QX goreduced (reduced_small _ n.natAbs d.natAbs (by omega) (by omega) (by omega)) J J J J ?_
  refine Q8 3 J J J J J szFrac J J (Qj J J J (Qv (hK _ _ (Qz (QU ?_))))); clear hK K; refine QY [_, _] rfl (Qp (n := 3) J J Qg J (Qu J QQ)) J J
theorem Yc : InGo Tryz.prog 58 := InGo.of Tryz.func58 (by kernel_rfl) (by kernel_rfl)
set_option maxHeartbeats 2000000 in
theorem FCompare_fr (f h : Fr) (h1 : Sz f.num) (h2 : Sz f.den) (h3 : Sz h.num) (h4 : Sz h.den) : Ok Tryz.prog 65 [fracC f, fracC h] (.fr (tupT [intC (if sumN f.neg (f.num * h.den) (!h.neg) (h.num * f.den) = 0 then 0 else if sumS f.neg (f.num * h.den) (!h.neg) (h.num * f.den) then -1 else 1), intC 0])) := by
  unfold Sz at *; have l1 := mul_len h1 h4; have l2 := mul_len h3 h2
  refine Ok.enter Tryz.func65 J _ Tryz.ntmps65 J ?_
  intro S w; refine Qy (Qx fun K hK => ?_); refine Qh 0 J J J J J J J (Qh 1 J J J J J J J (Qj J J J (Qj J J J (Qv (hK _ _ (Qz (Qy ?_))))))); clear hK K; refine Xz mixed 21 (.p 0 (.p 2 (.p 4 (.p 7 (.p 10 (.p 12 (.f 1 (.f 3 (.f 5 (.f 8 (.p 9 (.f 11 (.f 13 (.m 6 (.m 14 (.m 15 (.p 16 (.p 17 (.p 18 (.p 19 (.p 20 .done))))))))))))))))))))) (by kernel_rfl) (fun K hK => ?_); refine QW J J J fF0 J (QW J J J fF1 J (QW J J J fF2 J (QW J J J fF0 J (QW J J J fF1 J (QW J J J fF2 J (QK J J J J J lBool J (QK J J J J J lNat J (QK J J J J J lNat J (QK J J J J J lBool J (Qe J J J (QK J J J J J lNat J (QK J J J J J lNat J (QX goproduct (product_ok f.num h.den (by omega)) J J J J ?_))))))))))))); skip
  refine QX goproduct (product_ok h.num f.den (by omega)) J J J J ?_
  skip
  refine QX gosum (sum_ok _ _ _ _ (by omega) (by omega)) J J J J ?_
  refine Qq J J J (QZ J J J J (QZ J J J J (Qj J J J (Qj J J J (Qv (hK _ _ (Qz (Qy (Q4 (Qy ?_)))))))))); clear hK K; refine Qx (fun K hK => ?_); refine Qq J J J (Q3 J J sNat.und (List.length_map ..) J (Qk ieql J J J J (Qj J J J (Qv (hK _ _ (Qz ?_)))))); clear hK K; refine Q1 J (fun hz => ?_) (fun hz => ?_)
  · have hz' : sumN f.neg (f.num * h.den) (!h.neg) (h.num * f.den) = 0 := limbs_nil (List.eq_nil_of_length_eq_zero (by omega)); refine Qy (Qx fun K hK => ?_); refine Qj J J J (Qj J J J (Qv (hK _ _ (Qz (QU (Q5 (QV ?_))))))); clear hK K; refine QY [_, _] rfl (Qu J (Qu J QQ)) (by rw [if_pos hz']; rfl) J
  · have hz' : ¬ sumN f.neg (f.num * h.den) (!h.neg) (h.num * f.den) = 0 := fun e => hz (by rw [e, limbs_zero]; rfl)
    refine Qy (Qx fun K hK => ?_); refine Qq J J J (Qj J J J (Qv (hK _ _ (Qz ?_)))); clear hK K; refine Zz J (fun hs => ?_) (fun hs => ?_)
    · refine Qy (Qx fun K hK => ?_); refine Qj J J J (Qj J J J (Qv (hK _ _ (Qz (QU (Q5 (QV ?_))))))); clear hK K; refine QY [_, _] rfl (Qu J (Qu J QQ)) (by rw [if_neg hz', hs]; rfl) J
    · refine Q0 (Qz (Qy (Qx fun K hK => ?_))); refine Qj J J J (Qj J J J (Qv (hK _ _ (Qz (QU ?_))))); clear hK K; refine QY [_, _] rfl (Qu J (Qu J QQ)) (by rw [if_neg hz', hs]; rfl) J
theorem goFCompare : InGo Tryz.prog 65 := InGo.of Tryz.func65 (by kernel_rfl) (by kernel_rfl)
set_option maxHeartbeats 2000000 in
theorem FAdd_fr (f h : Fr) (h1 : Sz f.num) (h3 : Sz h.num) (h2 : 0 < f.den) (h4 : 0 < h.den) (h5 : f.den * h.den < 1073741824) : Ok Tryz.prog 60 [fracC f, fracC h] (.fr (tupT [fracC (redF (sumS f.neg (f.num * h.den) h.neg (h.num * f.den)) (sumN f.neg (f.num * h.den) h.neg (h.num * f.den)) (f.den * h.den)), intC 0])) := by
  unfold Sz at *; have hp := Nat.mul_pos h2 h4; have k1 : f.den ≤ f.den * h.den := Nat.le_mul_of_pos_right _ h4; have k2 : h.den ≤ f.den * h.den := Nat.le_mul_of_pos_left _ h2; have d1 : (limbs f.den).length ≤ 1 := Qf (k := 1) (by omega); have d2 : (limbs h.den).length ≤ 1 := Qf (k := 1) (by omega); have l1 := mul_len h1 d2; have l2 := mul_len h3 d1; have l3 := sumN_len (n1 := f.neg) (n2 := h.neg) l1 l2; have l4 := Y2 (sumS f.neg (f.num * h.den) h.neg (h.num * f.den)) (sumN f.neg (f.num * h.den) h.neg (h.num * f.den)) _ hp; have l5 := redF_neg (sumS f.neg (f.num * h.den) h.neg (h.num * f.den)) (sumN f.neg (f.num * h.den) h.neg (h.num * f.den)) (f.den * h.den); have l6 : (limbs (redF (sumS f.neg (f.num * h.den) h.neg (h.num * f.den)) (sumN f.neg (f.num * h.den) h.neg (h.num * f.den)) (f.den * h.den)).num).length ≤ 32 := div_len l3; have l7 : (limbs (redF (sumS f.neg (f.num * h.den) h.neg (h.num * f.den)) (sumN f.neg (f.num * h.den) h.neg (h.num * f.den)) (f.den * h.den)).den).length ≤ 1 := Qf (k := 1) (by omega)
  refine Ok.enter Tryz.func60 J _ Tryz.ntmps60 J ?_
  intro S w; have hr := reduced_small (sumS f.neg (f.num * h.den) h.neg (h.num * f.den)) (sumN f.neg (f.num * h.den) h.neg (h.num * f.den)) _ hp h5 (by omega); generalize redF (sumS f.neg (f.num * h.den) h.neg (h.num * f.den)) (sumN f.neg (f.num * h.den) h.neg (h.num * f.den)) (f.den * h.den) = rr at *; refine Qy (Qx fun K hK => ?_); refine Qh 0 J J J J J J J (Qh 1 J J J J J J J (Qa 2 J J zvFrac J J J (Qj J J J (Qv (hK _ _ (Qz (Qy ?_))))))); clear hK K; refine Xz mixed 20 (.p 0 (.p 2 (.p 4 (.p 7 (.p 9 (.p 11 (.f 1 (.f 3 (.f 5 (.f 8 (.f 10 (.f 12 (.m 6 (.m 13 (.m 14 (.p 15 (.p 16 (.p 17 (.p 18 (.p 19 .done)))))))))))))))))))) (by kernel_rfl) (fun K hK => ?_); refine QW J J J fF0 J (QW J J J fF1 J (QW J J J fF2 J (QW J J J fF0 J (QW J J J fF1 J (QW J J J fF2 J (QK J J J J J lBool J (QK J J J J J lNat J (QK J J J J J lNat J (QK J J J J J lBool J (QK J J J J J lNat J (QK J J J J J lNat J (QX goproduct (product_ok f.num h.den (by omega)) J J J J ?_)))))))))))); skip
  refine QX goproduct (product_ok h.num f.den (by omega)) J J J J ?_
  skip
  refine QX gosum (sum_ok _ _ _ _ (by omega) (by omega)) J J J J ?_
  refine Qq J J J (QZ J J J J (QZ J J J J (Qj J J J (Qj J J J (Qv (hK _ _ (Qz (Qy ?_)))))))); clear hK K; refine Qx (fun K hK => ?_); refine Qq J J J (Qq J J J (QW J J J fF2 J (QK J J J J J lNat J (QW J J J fF2 J (QK J J J J J lNat J (QX goproduct (product_ok f.den h.den (by omega)) J J J J ?_)))))); skip; refine QX goreduced hr J J J J (QX gochecked (checked_ok rr (by omega) (by omega) l4.1 l5) J J J J ?_); refine QZ J J J J (QZ J J J J (Q8 3 J J J J J szFrac J J (Qj J J J (Qv (hK _ _ (Qz (QU ?_))))))); clear hK K; refine QY [_, _] rfl (Qp (n := 3) J J Qg J (Qu J QQ)) J J
theorem goFAdd : InGo Tryz.prog 60 := InGo.of Tryz.func60 (by kernel_rfl) (by kernel_rfl)
set_option maxHeartbeats 2000000 in
theorem FMul_fr (f h : Fr) (h1 : Sz f.num) (h3 : Sz h.num) (h2 : 0 < f.den) (h4 : 0 < h.den) (h5 : f.den * h.den < 1073741824) : Ok Tryz.prog 59 [fracC f, fracC h] (.fr (tupT [fracC (redF (f.neg != h.neg) (f.num * h.num) (f.den * h.den)), intC 0])) := by
  unfold Sz at *; have hp := Nat.mul_pos h2 h4; have k1 : f.den ≤ f.den * h.den := Nat.le_mul_of_pos_right _ h4; have k2 : h.den ≤ f.den * h.den := Nat.le_mul_of_pos_left _ h2; have d1 : (limbs f.den).length ≤ 1 := Qf (k := 1) (by omega); have d2 : (limbs h.den).length ≤ 1 := Qf (k := 1) (by omega); have l3 := mul_len h1 h3; have l4 := Y2 (f.neg != h.neg) (f.num * h.num) _ hp; have l5 := redF_neg (f.neg != h.neg) (f.num * h.num) (f.den * h.den); have l6 : (limbs (redF (f.neg != h.neg) (f.num * h.num) (f.den * h.den)).num).length ≤ 60 := div_len l3; have l7 : (limbs (redF (f.neg != h.neg) (f.num * h.num) (f.den * h.den)).den).length ≤ 1 := Qf (k := 1) (by omega)
  refine Ok.enter Tryz.func59 J _ Tryz.ntmps59 J ?_
  intro S w; have hr := reduced_small (f.neg != h.neg) (f.num * h.num) _ hp h5 (by omega); generalize redF (f.neg != h.neg) (f.num * h.num) (f.den * h.den) = rr at *; refine Qy (Qx fun K hK => ?_); refine Qh 0 J J J J J J J (Qh 1 J J J J J J J (Qa 2 J J zvFrac J J J (Qj J J J (Qv (hK _ _ (Qz (Qy ?_))))))); clear hK K; refine Xz mixed 19 (.p 0 (.p 2 (.p 5 (.p 7 (.p 10 (.p 12 (.f 1 (.f 3 (.p 4 (.f 6 (.f 8 (.f 11 (.f 13 (.m 9 (.m 14 (.m 15 (.m 16 (.p 17 (.p 18 (.a 19 (.p 20 .done))))))))))))))))))))) (by kernel_rfl) (fun K hK => ?_); refine QW J J J fF0 J (QW J J J fF0 J (QW J J J fF1 J (QW J J J fF1 J (QW J J J fF2 J (QW J J J fF2 J (QK J J J J J lBool J (QK J J J J J lBool J (YX J J J uBool J ?_)))))))); rw [dne]; refine QK J J J J J lNat J (QK J J J J J lNat J (QK J J J J J lNat J (QK J J J J J lNat J (QX goproduct (product_ok f.num h.num (by omega)) J J J J ?_)))); skip
  refine QX goproduct (product_ok f.den h.den (by omega)) J J J J ?_
  refine QX goreduced hr J J J J (QX gochecked (checked_ok rr (by omega) (by omega) l4.1 l5) J J J J ?_); refine QZ J J J J (QZ J J J J (Q8 3 J J J J J szFrac J J (Qj J J J (Qv (hK _ _ (Qz (QU ?_))))))); clear hK K; refine QY [_, _] rfl (Qp (n := 3) J J Qg J (Qu J QQ)) J J
theorem goFMul : InGo Tryz.prog 59 := InGo.of Tryz.func59 (by kernel_rfl) (by kernel_rfl)
attribute [local irreducible] OkF
set_option maxHeartbeats 2000000 in
theorem DivMod_less (a b : Nat) (hab : a < b) (hl : (limbs b).length ≤ 256) : Ok Tryz.prog 151 [natC a, natC b] (.fr (tupT [natC (a / b), natC (a % b), intC 0])) := by
  have hla : (limbs a).length ≤ (limbs b).length := Xu (by omega)
  have hlb : 0 < (limbs b).length := by
    rcases Nat.eq_zero_or_pos (limbs b).length with h | h
    · have := limbs_nil (List.eq_nil_of_length_eq_zero h); omega
    · exact h
  refine Ok.enter Tryz.func151 J _ Tryz.ntmps151 J ?_
  intro S w; refine Qy (Qx fun K hK => ?_); refine Qj J J J (Qj J J J (Qj J J J (Qv (hK _ _ (Qz (Qy ?_)))))); clear hK K; refine Qx (fun K hK => ?_); refine Qq J J J (QX gotrim (trim_ok _ (by omega)) J J J J ?_); rw [trim_of_limbs]; refine Qj J J J (Qv (hK _ _ (Qz (Qy ?_)))); clear hK K; refine Qx (fun K hK => ?_); refine Qq J J J (Q3 J J sNat.und (List.length_map ..) J (Qj J J J (Qv (hK _ _ (Qz (Qy (Q4 (Qy ?_)))))))); clear hK K; refine Qx (fun K hK => ?_); refine Qq J J J (Qk ieql J J J J (Qj J J J (Qv (hK _ _ (Qz ?_))))); clear hK K; refine Q1 J (fun h => by exfalso; omega) (fun h => ?_); clear h; refine Qy (Qx fun K hK => ?_); refine Qq J J J (Qq J J J (QX goCompare (Compare_ok a b (by omega) (by omega)) J J J J ?_)); refine Qk ilss J J J J (Qj J J J (Qv (hK _ _ (Qz ?_)))); clear hK K; refine Q1 J (fun h => ?_) (fun h => ?_)
  · refine Qy (Qx fun K hK => ?_); refine Qq J J J (QX goClone (Clone_ok _ (by omega)) J J J J ?_); refine Qj J J J (Qj J J J (Qj J J J (Qv (hK _ _ (Qz (QU (Q5 (QV ?_)))))))); clear hK K; rw [Nat.div_eq_of_lt hab, Nat.mod_eq_of_lt hab, natC_zero]; refine QY [_, _, _] rfl (AllRes.nilS 1 J (Qu J (Qu J QQ))) J J
  · exfalso; apply h; rw [cmpI_eq, if_pos (by omega)]; decide
theorem DivMod_ok (a b : Nat) (hb : 0 < b) (hla : (limbs a).length ≤ 256) (hlb : (limbs b).length ≤ 256) : Ok Tryz.prog 151 [natC a, natC b] (.fr (tupT [natC (a / b), natC (a % b), intC 0])) := by
  by_cases h : a < b
  · exact DivMod_less a b h hlb
  · by_cases h2 : 2 ≤ (limbs b).length
    · exact DivMod_big a b h2 (by omega) hla
    · refine DivMod_small a b hb ?_ hla
      have := XU (n := b) (k := 1) (by omega)
      simpa using this
set_option maxHeartbeats 2000000 in
theorem Gcd_ok (a b : Nat) (hla : (limbs a).length ≤ 256) (hlb : (limbs b).length ≤ 256) : Ok Tryz.prog 150 [natC a, natC b] (natC (Nat.gcd a b)) := by
  refine Ok.enter Tryz.func150 J _ Tryz.ntmps150 J ?_
  intro S w; refine Qy (Qx fun K hK => ?_); refine Qj J J J (Qv (hK _ _ (Qz (Qy (Qy ?_))))); clear hK K; refine Qx (fun K hK => ?_); refine Qq J J J (QX goClone (Clone_ok _ (by omega)) J J J J ?_); refine Qq J J J (QX goClone (Clone_ok _ (by omega)) J J J J ?_); refine Qj J J J (Qj J J J (Qv (hK _ _ (Qz (Q4 ?_))))); clear hK K
  refine Qn (α := Nat × Nat) (fun s => (limbs s.1).length ≤ 256 ∧ (limbs s.2).length ≤ 256 ∧ Nat.gcd s.1 s.2 = Nat.gcd a b)
    (fun s => [(0, .ct (natC s.1)), (1, .ct (natC s.2))]) (fun _ => []) (fun s => s.2) (a, b) ⟨hla, hlb, rfl⟩ (by exact QJ J ⟨rfl, rfl, trivial⟩) ?_
  rintro ⟨p, q⟩ ⟨hp, hq, hg⟩
  dsimp only at hq hp hg ⊢; refine Qy (Qy (Qx fun K hK => ?_)); refine Qq J J J (Q3 J J sNat.und (List.length_map ..) J (Qk igtr J J J J (Qv (hK _ _ (Qz ?_))))); clear hK K; refine Q1 J (fun h => ?_) (fun h => ?_)
  · have hq0 : 0 < q := by
      rcases Nat.eq_zero_or_pos q with h0 | h0
      · subst h0; rw [limbs_zero] at h; simp at h
      · exact h0
    refine Q0 (Qz (Q4 (Qy (Qx fun K hK => ?_)))); refine Qq J J J (Qq J J J (QX goDivMod (DivMod_ok p q hq0 hp hq) J J J J (Qq J J J (QZ J J J J (QZ J J J J (QZ J J J J (Qj J J J (Qj J J J (Qj J J J (Qv (hK _ _ (Qz (Qy (Qy ?_)))))))))))))); clear hK K; refine Qx (fun K hK => ?_); refine Qq J J J (Qk ineq J J J J (Qv (hK _ _ (Qz (Qr J (Q0 (Qz ?_))))))); clear hK K; refine Qx (fun K hK => ?_); refine Qq J J J (Qq J J J (Qj J J J (Qj J J J (Qv (hK _ _ (XJ (Q7 ?_))))))); clear hK K; have hm := Nat.mod_lt p hq0; refine Qb (q, p % q) hm ⟨hq, ?_, ?_⟩ (by exact QJ J ⟨rfl, rfl, trivial⟩)
    · have := Xu (Nat.le_of_lt hm); dsimp only; omega
    · dsimp only; rw [← hg, Nat.gcd_comm, ← Nat.gcd_rec, Nat.gcd_comm]
  · have hq0 : q = 0 := limbs_nil (List.eq_nil_of_length_eq_zero (by omega))
    have e : p = Nat.gcd a b := by rw [← hg, hq0, Nat.gcd_zero_right]
    rw [← e]; refine Qm (Qz (Qy (Qx fun K hK => ?_))); refine Qq J J J (Qj J J J (Qv (hK _ _ (Qz (QU ?_))))); clear hK K; refine QY [_] rfl (Qu J QQ) J J
set_option maxHeartbeats 2000000 in
theorem reduced_ok (neg : Bool) (a b : Nat) (h0 : 0 < b) (hla : (limbs a).length ≤ 256) (hlb : (limbs b).length ≤ 256) : Ok Tryz.prog 113 [boolC neg, natC a, natC b] (fracC (redF neg a b)) := by
  have hg0 : 0 < Nat.gcd a b := Nat.gcd_pos_of_pos_right _ h0; have hg1 : Nat.gcd a b ≤ b := Nat.gcd_le_right _ h0; have hlg := Xu hg1
  refine Ok.enter Tryz.func113 J _ Tryz.ntmps113 J ?_
  intro S w; have e0 : redF neg a b = ⟨neg && decide (a / Nat.gcd a b ≠ 0), a / Nat.gcd a b, b / Nat.gcd a b⟩ := rfl; rw [e0]; clear e0; have h1 := Gcd_ok a b hla hlb; generalize Nat.gcd a b = g at *; refine Qy (Qx fun K hK => ?_); refine Qa 0 J J zvFrac J J J (Qv (hK _ _ (Qz (Qy ?_)))); clear hK K; refine Qx (fun K hK => ?_); refine Qq J J J (Qq J J J (QX goGcd h1 J J J J (Qj J J J (Qv (hK _ _ (Qz (Qy ?_))))))); clear hK K; refine Qx (fun K hK => ?_); refine Qq J J J (Qq J J J (QX goDivMod (DivMod_ok a g hg0 hla (by omega)) J J J J ?_)); refine Qq J J J (QZ J J J J (QZ J J J J (QZ J J J J (Qj J J J (Qj J J J (Qj J J J (Qv (hK _ _ (Qz (Qy ?_)))))))))); clear hK K; refine Qx (fun K hK => ?_); refine Qq J J J (Qq J J J (QX goDivMod (DivMod_ok b g hg0 hlb (by omega)) J J J J ?_)); refine Qq J J J (QZ J J J J (QZ J J J J (QZ J J J J (Qj J J J (Qj J J J (Qj J J J (Qv (hK _ _ (Qz (Qy ?_)))))))))); clear hK K; refine Qx (fun K hK => ?_); refine Qq J J J (Qq J J J (Xe 32 J (fun h => ?_) (fun h => ?_)))
  · refine Qq J J J (Q3 J J sNat.und (List.length_map ..) J (Qk igtr J J J J (Q6 J J J J (Qq J J J (Qq J J J (Xa J bFrac J (.one J J J J (.one J J J J (.one J J J J .nil))) J (Q8 3 J J J J J szFrac J J (Qv (hK _ _ (Qz (QU ?_))))))))))); clear hK K; refine QY [_] rfl (Qp (n := 3) J J Qg J QQ) (by rw [← limbs_len_posI, h]; rfl) J
  · refine Qw J J J (Qw J J J (Qw J J J (Q2 J J J J (Qq J J J (Qq J J J (Xa J bFrac J (.one J J J J (.one J J J J (.one J J J J .nil))) J (Q8 3 J J J J J szFrac J J (Qv (hK _ _ (Qz (QU ?_))))))))))); clear hK K; refine QY [_] rfl (Qp (n := 3) J J Qg J QQ) (by rw [h]; rfl) J
def qv (f : Fr) : Rat := mkRat (sg f.neg f.num) f.den
theorem Y6 (q : Rat) : qv (ofQ q) = q := by unfold qv; rw [ofQ_sg]; exact Rat.mkRat_self q
theorem redF_add (f h : Fr) (h1 : 0 < f.den) (h2 : 0 < h.den) : redF (sumS f.neg (f.num * h.den) h.neg (h.num * f.den)) (sumN f.neg (f.num * h.den) h.neg (h.num * f.den)) (f.den * h.den) = ofQ (qv f + qv h) := by
  rw [redF_q _ _ _ (Nat.mul_pos h1 h2), sum_sg, Y4, Y4]; unfold qv; rw [Rat.mkRat_add_mkRat _ _ (by omega) (by omega)]
theorem redF_mul (f h : Fr) (h1 : 0 < f.den) (h2 : 0 < h.den) : redF (f.neg != h.neg) (f.num * h.num) (f.den * h.den) = ofQ (qv f * qv h) := by
  rw [redF_q _ _ _ (Nat.mul_pos h1 h2)]; unfold qv; rw [Rat.mkRat_mul_mkRat]
  congr 2
  cases f.neg <;> cases h.neg <;> simp [sg, Int.natCast_mul, Int.neg_mul, Int.mul_neg]
set_option maxHeartbeats 2000000 in
theorem FCompare_gen (f h : Fr) (h1 : (limbs f.num).length ≤ 90) (h2 : (limbs f.den).length ≤ 90) (h3 : (limbs h.num).length ≤ 90) (h4 : (limbs h.den).length ≤ 90) : Ok Tryz.prog 65 [fracC f, fracC h] (.fr (tupT [intC (if sumN f.neg (f.num * h.den) (!h.neg) (h.num * f.den) = 0 then 0 else if sumS f.neg (f.num * h.den) (!h.neg) (h.num * f.den) then -1 else 1), intC 0])) := by
  have l1 := mul_len h1 h4; have l2 := mul_len h3 h2
  refine Ok.enter Tryz.func65 J _ Tryz.ntmps65 J ?_
  intro S w; refine Qy (Qx fun K hK => ?_); refine Qh 0 J J J J J J J (Qh 1 J J J J J J J (Qj J J J (Qj J J J (Qv (hK _ _ (Qz (Qy ?_))))))); clear hK K; refine Xz mixed 21 (.p 0 (.p 2 (.p 4 (.p 7 (.p 10 (.p 12 (.f 1 (.f 3 (.f 5 (.f 8 (.p 9 (.f 11 (.f 13 (.m 6 (.m 14 (.m 15 (.p 16 (.p 17 (.p 18 (.p 19 (.p 20 .done))))))))))))))))))))) (by kernel_rfl) (fun K hK => ?_); refine QW J J J fF0 J (QW J J J fF1 J (QW J J J fF2 J (QW J J J fF0 J (QW J J J fF1 J (QW J J J fF2 J (QK J J J J J lBool J (QK J J J J J lNat J (QK J J J J J lNat J (QK J J J J J lBool J (Qe J J J (QK J J J J J lNat J (QK J J J J J lNat J (QX goproduct (product_ok f.num h.den (by omega)) J J J J ?_))))))))))))); skip
  refine QX goproduct (product_ok h.num f.den (by omega)) J J J J ?_
  skip
  refine QX gosum (sum_ok _ _ _ _ (by omega) (by omega)) J J J J ?_
  refine Qq J J J (QZ J J J J (QZ J J J J (Qj J J J (Qj J J J (Qv (hK _ _ (Qz (Qy (Q4 (Qy ?_)))))))))); clear hK K; refine Qx (fun K hK => ?_); refine Qq J J J (Q3 J J sNat.und (List.length_map ..) J (Qk ieql J J J J (Qj J J J (Qv (hK _ _ (Qz ?_)))))); clear hK K; refine Q1 J (fun hz => ?_) (fun hz => ?_)
  · have hz' : sumN f.neg (f.num * h.den) (!h.neg) (h.num * f.den) = 0 := limbs_nil (List.eq_nil_of_length_eq_zero (by omega)); refine Qy (Qx fun K hK => ?_); refine Qj J J J (Qj J J J (Qv (hK _ _ (Qz (QU (Q5 (QV ?_))))))); clear hK K; refine QY [_, _] rfl (Qu J (Qu J QQ)) (by rw [if_pos hz']; rfl) J
  · have hz' : ¬ sumN f.neg (f.num * h.den) (!h.neg) (h.num * f.den) = 0 := fun e => hz (by rw [e, limbs_zero]; rfl)
    refine Qy (Qx fun K hK => ?_); refine Qq J J J (Qj J J J (Qv (hK _ _ (Qz ?_)))); clear hK K; refine Zz J (fun hs => ?_) (fun hs => ?_)
    · refine Qy (Qx fun K hK => ?_); refine Qj J J J (Qj J J J (Qv (hK _ _ (Qz (QU (Q5 (QV ?_))))))); clear hK K; refine QY [_, _] rfl (Qu J (Qu J QQ)) (by rw [if_neg hz', hs]; rfl) J
    · refine Q0 (Qz (Qy (Qx fun K hK => ?_))); refine Qj J J J (Qj J J J (Qv (hK _ _ (Qz (QU ?_))))); clear hK K; refine QY [_, _] rfl (Qu J (Qu J QQ)) (by rw [if_neg hz', hs]; rfl) J
set_option maxHeartbeats 2000000 in
theorem FMul_gen (f h : Fr) (hs1 : (limbs f.num).length + (limbs h.num).length ≤ 64) (hs2 : (limbs f.den).length + (limbs h.den).length ≤ 64) (d1 : 0 < f.den) (d2 : 0 < h.den) :
    Ok Tryz.prog 59 [fracC f, fracC h] (.fr (tupT [ratC (qv f * qv h), intC 0])) := by
  have hp := Nat.mul_pos d1 d2; have l3 := X2 (a := f.num) (b := h.num); have l8 := X2 (a := f.den) (b := h.den); have l4 := Y2 (f.neg != h.neg) (f.num * h.num) _ hp; have l5 := redF_neg (f.neg != h.neg) (f.num * h.num) (f.den * h.den); have l6 : (limbs (redF (f.neg != h.neg) (f.num * h.num) (f.den * h.den)).num).length ≤ 64 := div_len (Nat.le_trans l3 hs1); have l7 := Xu l4.2; have hr := reduced_ok (f.neg != h.neg) (f.num * h.num) _ hp (by omega) (by omega); show Ok Tryz.prog 59 [fracC f, fracC h] (.fr (tupT [fracC (ofQ (qv f * qv h)), intC 0])); rw [← redF_mul f h d1 d2]
  refine Ok.enter Tryz.func59 J _ Tryz.ntmps59 J ?_
  intro S w; generalize redF (f.neg != h.neg) (f.num * h.num) (f.den * h.den) = rr at *; refine Qy (Qx fun K hK => ?_); refine Qh 0 J J J J J J J (Qh 1 J J J J J J J (Qa 2 J J zvFrac J J J (Qj J J J (Qv (hK _ _ (Qz (Qy ?_))))))); clear hK K; refine Xz mixed 19 (.p 0 (.p 2 (.p 5 (.p 7 (.p 10 (.p 12 (.f 1 (.f 3 (.p 4 (.f 6 (.f 8 (.f 11 (.f 13 (.m 9 (.m 14 (.m 15 (.m 16 (.p 17 (.p 18 (.a 19 (.p 20 .done))))))))))))))))))))) (by kernel_rfl) (fun K hK => ?_); refine QW J J J fF0 J (QW J J J fF0 J (QW J J J fF1 J (QW J J J fF1 J (QW J J J fF2 J (QW J J J fF2 J (QK J J J J J lBool J (QK J J J J J lBool J (YX J J J uBool J ?_)))))))); rw [dne]; refine QK J J J J J lNat J (QK J J J J J lNat J (QK J J J J J lNat J (QK J J J J J lNat J (QX goproduct (product_ok f.num h.num (by omega)) J J J J ?_)))); skip
  refine QX goproduct (product_ok f.den h.den (by omega)) J J J J ?_
  refine QX goreduced hr J J J J (QX gochecked (checked_ok rr (by omega) (by omega) l4.1 l5) J J J J ?_); refine QZ J J J J (QZ J J J J (Q8 3 J J J J J szFrac J J (Qj J J J (Qv (hK _ _ (Qz (QU ?_))))))); clear hK K; refine QY [_, _] rfl (Qp (n := 3) J J Qg J (Qu J QQ)) J J
end Go.Proofs.YtdhmbgogmoaofaaGreat
namespace Go.Own
open Go.RowKit
variable {X : Ctx} {L : AL} {B : BL} {K : Act → World → Prop}
  {x y z : Operand} {d : Nat} {t t2 t' : TypeId} {pos : String} {af : Array Edge} {g : Option (Nat × Bool)}
inductive Ot where
  | done
  | non
  | p (i : Nat) (r : Ot)
  | f (i : Nat) (r : Ot)
  | a (i : Nat) (r : Ot)
  | br (i : Nat) (r : Ot) (o : Ot)
def wpT (P : Program) (l : List Oper) (bb : BSet) (K : Act → World → Prop) : Ot → Act → World → Prop
  | .done, a, w => K a w
  | .non, _, _ => True
  | .p i r, a, w => ∃ v, Yields P l.toArray (nth l i) v a ∧ wpT P l bb K r (a.put (nth l i).dst v) w
  | .f i r, a, w => ∃ v, YieldsIf P l.toArray (fun w' => Fr bb w w') (nth l i) v a ∧ wpT P l bb K r (a.put (nth l i).dst v) w
  | .a i r, a, w => wpO P l.toArray (fun a' w' => wpT P l bb K r a' w') (nth l i) a w
  | .br i r o, a, w => wpO P l.toArray (fun a' w' => Fr bb w w' ∧ wpT P l bb K r a' w') (nth l i) a w ∧ wpT P l bb K o a w
def alts : Ot → List Nat
  | .br i _ o => i :: alts o
  | _ => []
def waitsT (ops : Array Oper) (N i : Nat) : Bool := (List.range ops.size).all fun j => Nat.blt j N || match ops[j]? with
  | some oj => oj.after.any fun e => Region.binds .any e && (e.on == i || match ops[e.on]? with
    | some ok => ok.after.any fun e' => Region.binds .any e' && e'.on == i
    | none => false)
  | none => true
def chkT (ops : Array Oper) (N : Nat) : Bool → Ot → Nat → Array Bool → Bool
  | true, .done, _, listed => (Region.ready .any ops listed).isEmpty
  | true, .p i r, n + 1, listed => (Region.ready .any ops listed).contains i && Region.free .any ops listed i && chkT ops N true r n (listed.setIfInBounds i true)
  | true, .f i r, n + 1, listed => (Region.ready .any ops listed).contains i && Region.free .any ops listed i && waitsT ops N i && chkT ops N true r n (listed.setIfInBounds i true)
  | true, .a i r, n + 1, listed => Region.ready .any ops listed == [i] && !Nat.blt i N && chkT ops N true r n (listed.setIfInBounds i true)
  | tp, .br i r o, n + 1, listed => (!tp || Region.ready .any ops listed == alts (.br i r o)) && Nat.blt i N && chkT ops N true r n (listed.setIfInBounds i true) && chkT ops N false o (n + 1) listed
  | false, .non, _, _ => true
  | _, _, _, _ => false
def Shut (ops : Array Oper) (listed : Array Bool) : Prop := ∀ k ok, ops[k]? = some ok → listed.getD k false = true → ∀ e ∈ ok.after, Region.binds .any e = true → listed.getD e.on false = true
theorem set_true {listed : Array Bool} {i j : Nat} (h : listed.getD j false = true) : (listed.setIfInBounds i true).getD j false = true := by
  by_cases hij : i = j
  · subst hij; rcases Nat.lt_or_ge i listed.size with h' | h'
    · simp [h']
    · simp [h'] at h
  · rw [getD_set_ne false hij]; exact h
theorem Shut.step {ops : Array Oper} {listed : Array Bool} {i : Nat} (h : Shut ops listed) (hr : i ∈ Region.ready .any ops listed) : Shut ops (listed.setIfInBounds i true) := fun k ok hk hl e he hb => by
  by_cases hik : i = k
  · subst hik
    obtain ⟨_, o, ho, hall⟩ := mem_ready.1 hr
    rw [hk] at ho; injection ho with ho; subst ho
    exact set_true (hall e he hb)
  · rw [getD_set_ne false hik] at hl; exact set_true (h k ok hk hl e he hb)
theorem Shut.start (ops : Array Oper) (n : Nat) : Shut ops (Array.replicate n false) := fun k ok _ hl => by
  rw [Array.getD_eq_getD_getElem?, Array.getElem?_replicate] at hl
  split at hl <;> cases hl
end Go.Own
namespace Go.Own
open Go.RowKit
variable {X : Ctx} {L : AL} {B : BL} {ops : Array Oper} {K : Act → World → Prop} {r : Pl} {k : Kd}
  {x y z : Operand} {d : Nat} {t t2 t' : TypeId} {pos : String} {af : Array Edge} {g : Option (Nat × Bool)}
def Sn (S : BSet) (B : BL) (ρ : Nat → Value) : BSet := fun k => S k ∧ ∀ i e, bget B i = some e → blk (ρ i) ≠ some k
structure Hp (S : BSet) (B : BL) (ρ : Nat → Value) (w : World) : Prop where
  ent : ∀ i e, bget B i = some e → e.ok (Sn S B ρ) w (ρ i)
  apart : ∀ i j e e', bget B i = some e → bget B j = some e' → i ≠ j → ∀ g, blk (ρ i) = some g → blk (ρ j) ≠ some g
def slots (S : BSet) (ρ : Nat → Value) (w : World) : List Sl → List Value → Prop
  | [], [] => True
  | s :: ss, v :: vs => s.p S ρ w v ∧ slots S ρ w ss vs
  | _, _ => False
theorem slots.length {S : BSet} {ρ : Nat → Value} {w : World} : ∀ {ss : List Sl} {vs : List Value}, slots S ρ w ss vs → vs.length = ss.length
  | [], [], _ => rfl
  | _ :: _, _ :: _, ⟨_, b⟩ => by simp [slots.length b]
  | [], _ :: _, h => h.elim
  | _ :: _, [], h => h.elim
def argS : Nat → List Sl → AL
  | _, [] => []
  | i, s :: ss => (i, s) :: argS (i + 1) ss
theorem look_argS {S : BSet} {ρ : Nat → Value} {w : World} : ∀ {ss : List Sl} {vs : List Value} {i d : Nat} {s : Sl}, slots S ρ w ss vs → look (argS i ss) d = some s → ∃ v, i ≤ d ∧ vs[d - i]? = some v ∧ s.p S ρ w v
  | [], [], _, _, _, _, hd => by cases hd
  | s :: ss, v :: vs, i, d, s', ⟨a, b⟩, hd => by
    simp only [argS] at hd
    by_cases h : i = d
    · subst h; rw [ZZ] at hd; injection hd with hd; subst hd; exact ⟨v, Nat.le_refl _, by simp, a⟩
    · rw [Xd _ _ h] at hd
      obtain ⟨u, h1, h2, h3⟩ := look_argS b hd
      refine ⟨u, by omega, ?_, h3⟩
      obtain ⟨m, hm⟩ : ∃ m, d - i = m + 1 := ⟨d - i - 1, by omega⟩
      rw [hm, List.getElem?_cons_succ, ← h2]; congr 1; omega
  | [], _ :: _, _, _, _, h, _ => h.elim
  | _ :: _, [], _, _, _, h, _ => h.elim
def postM (S : BSet) (w0 : World) (ρ0 : Nat → Value) (B0 : BL) (fx : List Nat) {α : Type} (J : α → Prop) (R : α → Sl) (B1 : α → BL) : Ending → World → Prop := fun e w' =>
  ∃ v q ρ', e = .returned v ∧ J q ∧ (R q).p (Sn S (B1 q) ρ') ρ' w' v ∧ Hp S (B1 q) ρ' w' ∧ (∀ i ∈ fx, isBx (bget (B1 q) i) = true ∧ ρ' i = ρ0 i) ∧
    (∀ i e, bget (B1 q) i = some e → ∀ gb, blk (ρ' i) = some gb → w0.heap.size ≤ gb ∨ ∃ j f, bget B0 j = some f ∧ blk (ρ0 j) = some gb) ∧ Fr (fun k => ∃ j f, bget B0 j = some f ∧ blk (ρ0 j) = some k) w0 w'
def OkM (P : Program) (f : FuncId) (As : List Sl) (B0 : BL) (fx : List Nat) {α : Type} (J : α → Prop) (R : α → Sl) (B1 : α → BL) : Prop :=
  ∀ (S : BSet) (w : World) (ρ : Nat → Value) (vs : List Value), (∀ k, w.heap.size ≤ k → S k) → (∀ i e, bget B0 i = some e → ∀ gb, blk (ρ i) = some gb → S gb) → Hp S B0 ρ w → slots (Sn S B0 ρ) ρ w As vs →
    Calls P f vs.toArray w (postM S w ρ B0 fx J R B1)
abbrev lentM (P : Program) (n : Nat) (S : BSet) (w : World) (B0 : BL) (fx : List Nat) (ρ0 : Nat → Value) : Ctx := { P := P, n := n, S0 := S, w0 := w, bor := fun k => ∃ j f, bget B0 j = some f ∧ blk (ρ0 j) = some k, fix := fx.map fun i => (i, ρ0 i) }
theorem OkM.enter {P : Program} {f : FuncId} {fn : Func} {c : Code} {As : List Sl} {B0 : BL} {fx : List Nat} {α : Type} {J : α → Prop} {R : α → Sl} {B1 : α → BL} (hf : P.funcs[f]? = some fn) (hb : fn.body = some c) (n : Nat) (hn : fn.ntmps = n) (ha : Nat.ble As.length n = true) (hfx : ∀ i ∈ fx, isBx (bget B0 i) = true)
    (h : ∀ S w ρ0, (∀ gb, (lentM P n S w B0 fx ρ0).bor gb → S gb) → St (lentM P n S w B0 fx ρ0) (argS 0 As) B0 c (bodyPost P fn (postM S w ρ0 B0 fx J R B1))) : OkM P f As B0 fx J R B1 := by
  intro S w ρ vs hS hB hH hA; have hl := hA.length; have hle := Nat.le_of_ble_eq_true ha; refine calls_of_wp hf hb (h S w ρ (fun gb ⟨j, f, h1, h2⟩ => hB j f h1 gb h2) _ ρ w ?_); refine ⟨by simp [lentM, hn]; omega, rfl, fun d s hd => ?_, fun i e hi => ⟨hH.ent i e hi, fun gb hgb => .inr ⟨i, e, hi, hgb⟩⟩, hH.apart, ⟨rfl, rfl, rfl, Nat.le_refl _, fun _ _ _ => rfl⟩, hS, fun p hp => ?_⟩
  · obtain ⟨v, h1, h2, h3⟩ := look_argS hA hd; have hlt : d - 0 < vs.length := (List.getElem?_eq_some_iff.1 h2).1
    have : (vs.toArray ++ Array.replicate (fn.ntmps - vs.toArray.size) undef).getD d undef = v := by
      rw [Array.getD_eq_getD_getElem?, Array.getElem?_append_left (by simp; omega)]; simp only [Nat.sub_zero] at h2; simp [h2]
    rw [this]; exact h3
  · obtain ⟨i, hi, rfl⟩ := List.mem_map.1 hp; exact ⟨hfx i hi, rfl⟩
section ret
variable {P : Program} {n : Nat} {S : BSet} {w0 : World} {B0 : BL} {fx : List Nat} {ρ0 : Nat → Value} {α : Type} {J : α → Prop} {R : α → Sl} {B1 : α → BL}
end ret
theorem Zw (A C : BL) (j : Nat) : bget (A ++ C) j = (bget A j).or (bget C j) := by
  induction A with
  | nil => rfl
  | cons p A ih =>
    obtain ⟨i, e⟩ := p; by_cases h : i = j
    · subst h; rw [List.cons_append, X5, X5]; rfl
    · rw [List.cons_append, Xx _ _ h, Xx _ _ h, ih]
def evS (L : AL) : List Operand → Option (List Sl)
  | [] => some []
  | x :: xs => match ev L x, evS L xs with
    | some s, some ss => some (s :: ss)
    | _, _ => none
theorem Is.evS {a : Act} {ρ : Nat → Value} {w : World} (h : Is X L B a ρ w) : ∀ {xs : List Operand} {ss : List Sl}, Own.evS L xs = some ss → slots (Sof X B ρ) ρ w ss (xs.map a.eval)
  | [], ss, he => by simp only [Own.evS] at he; injection he with he; subst he; trivial
  | x :: xs, ss, he => by
    simp only [Own.evS] at he
    split at he
    · rename_i c cs' h1 h2
      injection he with he; subst he
      exact ⟨h.ev h1, h.evS h2⟩
    · cases he
def Sl.keepN (kp : Nat → Bool) : Sl → Sl
  | .own j => if kp j then .own j else .any
  | .loc j o => if kp j then .loc j o else .any
  | s => s
def keepL (kp : Nat → Bool) : AL → AL
  | [] => []
  | (d, s) :: L => (d, s.keepN kp) :: keepL kp L
theorem look_keepL (kp : Nat → Bool) (L : AL) (d : Nat) : look (keepL kp L) d = (look L d).map (Sl.keepN kp) := by
  induction L with
  | nil => rfl
  | cons x L ih =>
    obtain ⟨k, s⟩ := x; by_cases hk : k = d
    · subst hk; simp [keepL, look]
    · simp only [keepL]; rw [Xd _ _ hk, Xd _ _ hk, ih]
def someB (o : Option Ent) : Bool := o.isSome
set_option maxHeartbeats 1000000 in
theorem Is.afterM {a : Act} {ρ : Nat → Value} {w : World} (hI : Is X L B a ρ w) {B0 C : BL} {fx : List Nat} {α : Type} {R : α → Sl} {B1 : α → BL} (kp : Nat → Bool) (hB : ∀ j, bget B j = bget (B0 ++ C) j) (hC : ∀ j, (bget C j).isSome = true → bget B0 j = none)
    {S : BSet} (hSdef : S = fun k => X.S0 k ∧ ∀ i e, bget C i = some e → blk (ρ i) ≠ some k) {q : α} (hC1 : ∀ j, (bget C j).isSome = true → bget (B1 q) j = none) (hkp : ∀ j, kp j = true → j ∈ fx ∨ bget (B1 q) j = none) (hfix : ∀ p ∈ X.fix, (bget C p.1).isSome = true ∨ p.1 ∈ fx)
    {v : Value} {ρ' : Nat → Value} {w' : World} (hv : (R q).p (Sn S (B1 q) ρ') ρ' w' v) (hH : Hp S (B1 q) ρ' w') (hfx : ∀ i ∈ fx, isBx (bget (B1 q) i) = true ∧ ρ' i = ρ i)
    (hnew : ∀ i e, bget (B1 q) i = some e → ∀ gb, blk (ρ' i) = some gb → w.heap.size ≤ gb ∨ ∃ j f, bget B0 j = some f ∧ blk (ρ j) = some gb) (hF : Fr (fun k => ∃ j f, bget B0 j = some f ∧ blk (ρ j) = some k) w w') (hRk : ∀ j, (R q = .own j ∨ ∃ o, R q = .loc j o) → (bget (B1 q) j).isSome = true) :
    Is X (keepL kp L) (B1 q ++ C) a (fun j => if (bget (B1 q) j).isSome then ρ' j else ρ j) w' ∧ (R q).p (Sof X (B1 q ++ C) (fun j => if (bget (B1 q) j).isSome then ρ' j else ρ j)) (fun j => if (bget (B1 q) j).isSome then ρ' j else ρ j) w' v := by
  have c0 : ∀ j e, bget B0 j = some e → bget B j = some e := fun j e h => by rw [hB, Zw, h]; rfl
  have cC : ∀ j e, bget C j = some e → bget B j = some e := fun j e h => by rw [hB, Zw, hC j (by rw [h]; rfl), h]; rfl
  have split : ∀ j e, bget (B1 q ++ C) j = some e → (bget (B1 q) j = some e) ∨ (bget (B1 q) j = none ∧ bget C j = some e) := fun j e h => by
    rw [Zw] at h
    cases h1 : bget (B1 q) j with
    | none => rw [h1] at h; exact .inr ⟨rfl, h⟩
    | some e1 => rw [h1] at h; exact .inl h
  have r1 : ∀ j e, bget (B1 q) j = some e → (if (bget (B1 q) j).isSome then ρ' j else ρ j) = ρ' j := fun j e h => by rw [h]; rfl
  have r2 : ∀ j, bget (B1 q) j = none → (if (bget (B1 q) j).isSome then ρ' j else ρ j) = ρ j := fun j h => by rw [h]; rfl
  have hSof : Sof X (B1 q ++ C) (fun j => if (bget (B1 q) j).isSome then ρ' j else ρ j) = Sn S (B1 q) ρ' := by
    funext k
    refine propext ⟨fun h => ⟨?_, fun i e hi => ?_⟩, fun h => ⟨?_, fun i e hi => ?_⟩⟩
    · rw [hSdef]; refine ⟨h.1, fun i e hi => ?_⟩; have hn := hC1 i (by rw [hi]; rfl); have := h.2 i e (by rw [Zw, hn]; exact hi); simp only [r2 i hn] at this; exact this
    · have := h.2 i e (by rw [Zw, hi]; rfl); simp only [r1 i e hi] at this; exact this
    · have := h.1; rw [hSdef] at this; exact this.1
    · rcases split i e hi with h1 | ⟨h1, h2⟩
      · simp only [r1 i e h1]; exact h.2 i e h1
      · simp only [r2 i h1]; have := h.1; rw [hSdef] at this; exact this.2 i e h2
  have hKp : Kp (Sof X B ρ) (Sn S (B1 q) ρ') w w' := ⟨hF.size, fun k hk hs => by
    have hn0 : ¬ ∃ j f, bget B0 j = some f ∧ blk (ρ j) = some k := fun ⟨j, f, h1, h2⟩ => hs.2 j f (c0 j f h1) h2
    refine ⟨⟨?_, fun i e hi hbk => ?_⟩, hF.block k hk hn0⟩
    · rw [hSdef]; exact ⟨hs.1, fun i e hi => hs.2 i e (cC i e hi)⟩
    · rcases hnew i e hi k hbk with h1 | h1
      · omega
      · exact hn0 h1⟩
  have hCk : ∀ j e, bget C j = some e → ∀ gb, blk (ρ j) = some gb → gb < w.heap.size ∧ (¬ ∃ i f, bget B0 i = some f ∧ blk (ρ i) = some gb) := fun j e hj gb hgb => by
    refine ⟨hI.lt (cC j e hj) hgb, fun ⟨i, f, h1, h2⟩ => ?_⟩
    have hij : i ≠ j := fun he => by subst he; rw [hC i (by rw [hj]; rfl)] at h1; cases h1
    exact hI.apart i j f e (c0 i f h1) (cC j e hj) hij gb h2 hgb
  refine ⟨⟨hI.size, hI.defers, fun d s hd => ?_, fun i e hi => ?_, fun i j e e' hi hj hij gb hgb => ?_, ⟨hF.os.trans hI.frame.os, hF.tape.trans hI.frame.tape, hF.output.trans hI.frame.output, Nat.le_trans hI.frame.size hF.size, fun k hk hn => ?_⟩, hI.fresh, fun p hp => ?_⟩, ?_⟩
  · rw [look_keepL] at hd
    cases h1 : look L d with
    | none => rw [h1] at hd; cases hd
    | some s0 =>
      rw [h1] at hd
      injection hd with hd
      subst hd; have h2 := hI.slot d s0 h1; rw [hSof]
      have kept : ∀ j, kp j = true → (if (bget (B1 q) j).isSome then ρ' j else ρ j) = ρ j := fun j hj => by
        rcases hkp j hj with h3 | h3
        · have := (hfx j h3).2; split
          · exact this
          · rfl
        · exact r2 j h3
      cases s0 with
      | ct c => exact CT.mono hKp h2
      | any => trivial
      | own j =>
        simp only [Sl.keepN]; split
        · rename_i hj
          show _ = (if (bget (B1 q) j).isSome then ρ' j else ρ j); rw [kept j hj]; exact h2
        · trivial
      | loc j o =>
        simp only [Sl.keepN]; split
        · rename_i hj
          obtain ⟨gb, h3, h4⟩ := h2; exact ⟨gb, by simp only [kept j hj]; exact h3, h4⟩
        · trivial
  · rw [hSof]; rcases split i e hi with h1 | ⟨h1, h2⟩
    · simp only [r1 i e h1]; refine ⟨hH.ent i e h1, fun gb hgb => ?_⟩; rcases hnew i e h1 gb hgb with h3 | ⟨j, f, h3, h4⟩
      · exact .inl (Nat.le_trans hI.frame.size h3)
      · exact (hI.ent j f (c0 j f h3)).2 gb h4
    · simp only [r2 i h1]; have h3 := hI.ent i e (cC i e h2); refine ⟨Ent.keep hKp (fun gb hgb hlt => hF.block gb hlt (hCk i e h2 gb hgb).2) h3.1, h3.2⟩
  · rcases split i e hi with h1 | ⟨h1, h2⟩ <;> rcases split j e' hj with h3 | ⟨h3, h4⟩
    · simp only [r1 i e h1] at hgb; simp only [r1 j e' h3]; exact hH.apart i j e e' h1 h3 hij gb hgb
    · simp only [r1 i e h1] at hgb; simp only [r2 j h3]; intro hgj; have := hCk j e' h4 gb hgj; rcases hnew i e h1 gb hgb with h5 | h5
      · omega
      · exact this.2 h5
    · simp only [r2 i h1] at hgb; simp only [r1 j e' h3]; intro hgj; have := hCk i e h2 gb hgb; rcases hnew j e' h3 gb hgj with h5 | h5
      · omega
      · exact this.2 h5
    · simp only [r2 i h1] at hgb; simp only [r2 j h3]; exact hI.apart i j e e' (cC i e h2) (cC j e' h4) hij gb hgb
  · have hn0 : ¬ ∃ j f, bget B0 j = some f ∧ blk (ρ j) = some k := fun ⟨j, f, h1, h2⟩ => by
      rcases (hI.ent j f (c0 j f h1)).2 k h2 with h3 | h3
      · omega
      · exact hn h3
    rw [hF.block k (Nat.lt_of_lt_of_le hk hI.frame.size) hn0]; exact hI.frame.block k hk hn
  · have h0 := hI.fixd p hp; rcases hfix p hp with h1 | h1
    · have hn := hC1 p.1 h1; refine ⟨?_, ?_⟩
      · rw [Zw, hn]
        have h2 : bget B p.1 = bget C p.1 := by
          cases h3 : bget C p.1 with
          | none => rw [h3] at h1; cases h1
          | some e => exact cC _ _ h3
        rw [← h2]; exact h0.1
      · simp only [r2 p.1 hn]; exact h0.2
    · have h2 := hfx p.1 h1
      have h3 : ∃ e, bget (B1 q) p.1 = some e := by
        cases h4 : bget (B1 q) p.1 with
        | none => rw [h4] at h2; exact absurd h2.1 (by simp [isBx])
        | some e => exact ⟨e, rfl⟩
      obtain ⟨e, h3⟩ := h3; refine ⟨?_, ?_⟩
      · have : bget (B1 q ++ C) p.1 = bget (B1 q) p.1 := by rw [Zw, h3]; rfl
        rw [this]; exact h2.1
      · simp only [r1 p.1 e h3]; rw [h2.2]; exact h0.2
  · rw [hSof]
    cases h : R q with
    | ct c => rw [h] at hv; exact hv
    | any => trivial
    | own j =>
      rw [h] at hv; obtain ⟨e, he⟩ := Option.isSome_iff_exists.1 (hRk j (.inl h)); show v = _; simp only [r1 j e he]; exact hv
    | loc j o =>
      rw [h] at hv; obtain ⟨e, he⟩ := Option.isSome_iff_exists.1 (hRk j (.inr ⟨o, h⟩)); obtain ⟨gb, h3, h4⟩ := hv; exact ⟨gb, by simp only [r1 j e he]; exact h3, h4⟩
theorem Ops.callM {f : FuncId} {args : List Operand} {tys : Array TypeId} {As : List Sl} {B0 : BL} {fx : List Nat} {α : Type} {J : α → Prop} {R : α → Sl} {B1 : α → BL} (C : BL) (kp : Nat → Bool) (hgo : InGo X.P f) (hok : OkM X.P f As B0 fx J R B1) (hg : gd ops L g = some true) (hargs : evS L args = some As) (hn : Nat.blt d X.n = true)
    (hbor : ∀ gb, X.bor gb → X.S0 gb) (hB : ∀ j, bget B j = bget (B0 ++ C) j) (hC : ∀ j, (bget C j).isSome = true → bget B0 j = none ∧ ∀ q, bget (B1 q) j = none) (hkp : ∀ j, kp j = true → j ∈ fx ∨ ∀ q, bget (B1 q) j = none) (hfix : ∀ p ∈ X.fix, (bget C p.1).isSome = true ∨ p.1 ∈ fx)
    (hRk : ∀ q j, (R q = .own j ∨ ∃ o, R q = .loc j o) → (bget (B1 q) j).isSome = true)
    (h : ∀ q, J q → Ops X ops r ((d, R q) :: keepL kp L) (B1 q ++ C) K) : Ops X ops (.cons ⟨some d, .call { callee := .value (.func f), args := args.toArray, argTypes := tys }, t, pos, af, g⟩ .any r) L B K := fun a ρ w hI => by
  show wpO _ _ _ _ _ _
  unfold wpO
  rw [if_pos (YJ (o := ⟨some d, _, t, pos, af, g⟩) hI hg)]
  unfold Oper.wp
  have hrun : (execOp a.eval ⟨some d, .call { callee := .value (.func f), args := args.toArray, argTypes := tys }, t, pos, af, g⟩).run X.P w = .ok (.enter f (args.map a.eval).toArray) w := by
    show (do let D ← resolve a.eval { callee := .value (.func f), args := args.toArray, argTypes := tys } t; invoke D.target D.args : Sem Next).run X.P w = _; have hf : a.eval (.func f) = .func (.func f) #[] #[] := rfl; simp only [resolve, hf, Deferred.ofValue, Sem.run_bind, Sem.run_pure, Result.andThen_ok, invoke]; rw [hgo]
    congr 2
    simp
  rw [hrun]
  have c0 : ∀ j e, bget B0 j = some e → bget B j = some e := fun j e h => by rw [hB, Zw, h]; rfl
  have cC : ∀ j e, bget C j = some e → bget B j = some e := fun j e h => by rw [hB, Zw, (hC j (by rw [h]; rfl)).1, h]; rfl
  have hS0 : ∀ j e, bget B j = some e → ∀ gb, blk (ρ j) = some gb → X.S0 gb := fun j e hj gb hgb => by
    rcases (hI.ent j e hj).2 gb hgb with h1 | h1
    · exact hI.fresh gb h1
    · exact hbor gb h1
  have hSn : Sn (fun k => X.S0 k ∧ ∀ i e, bget C i = some e → blk (ρ i) ≠ some k) B0 ρ = Sof X B ρ := by
    funext k
    refine propext ⟨fun h => ⟨h.1.1, fun i e hi => ?_⟩, fun h => ⟨⟨h.1, fun i e hi => h.2 i e (cC i e hi)⟩, fun i e hi => h.2 i e (c0 i e hi)⟩⟩; rw [hB, Zw] at hi
    cases h1 : bget B0 i with
    | none => rw [h1] at hi; exact h.1.2 i e hi
    | some e1 => rw [h1] at hi; exact h.2 i e (by rw [h1]; exact hi)
  refine Calls.mono (hok (fun k => X.S0 k ∧ ∀ i e, bget C i = some e → blk (ρ i) ≠ some k) w ρ _ (fun k hk => ⟨hI.fresh k (Nat.le_trans hI.frame.size hk), fun i e hi hbk => ?_⟩) (fun i e hi gb hgb => ⟨hS0 i e (c0 i e hi) gb hgb, fun j f hj hbk => ?_⟩) ⟨fun i e hi => ?_, fun i j e e' hi hj => hI.apart i j e e' (c0 i e hi) (c0 j e' hj)⟩ (by rw [hSn]; exact hI.evS hargs)) ?_
  · have := hI.lt (cC i e hi) hbk; omega
  · have hij : i ≠ j := fun he => by subst he; rw [(hC i (by rw [hj]; rfl)).1] at hi; cases hi
    exact hI.apart i j e f (c0 i e hi) (cC j f hj) hij gb hgb hbk
  · rw [hSn]; exact (hI.ent i e (c0 i e hi)).1
  · rintro e w' ⟨v, q, ρ', rfl, hJ, hv, hH, hfx, hnew, hF⟩
    have := hI.afterM kp hB (fun j hj => (hC j hj).1) Y (fun j hj => (hC j hj).2 q) (fun j hj => (hkp j hj).imp id (fun h => h q)) hfix hv hH hfx hnew hF (hRk q); exact h q hJ _ _ w' (this.1.put (s := R q) (Z0 hn) this.2)
end Go.Own
namespace Go.Proofs.YtdhmbgogmoaofaaGreat
open Go.Own Go.Limbs
theorem zInts : (Tryz.prog.info? 24).map (·.size) = some 1 := by kernel_rfl
abbrev whCs (z : Int) : List CT := [boolC (decide (z < 0)), natC z.natAbs]
abbrev whC (z : Int) : CT := .fr (aggT (whCs z))
def whs (zs : List Int) : List CT := (zs.map whCs).flatten
section
variable {X : Ctx} {L : AL} {B : BL} {ops : Array Oper} {K : Act → World → Prop} {r : Pl} {k : Kd}
  {x y z : Operand} {d : Nat} {t t2 t' : TypeId} {pos : String} {af : Array Edge} {g : Option (Nat × Bool)}
end
attribute [local irreducible] Go.Own.Fin Ok Ops St
theorem len0 {z : Int} : ((limbs z.natAbs).length : Int) = 0 ↔ z = 0 := by
  have := limbs_len_pos (n := z.natAbs); omega
end Go.Proofs.YtdhmbgogmoaofaaGreat
namespace Go.Own
variable {X : Ctx} {L : AL} {B : BL} {ops : Array Oper} {K : Act → World → Prop} {r : Pl} {k : Kd}
  {x y z : Operand} {d : Nat} {t t2 t' : TypeId} {pos : String} {af : Array Edge} {g : Option (Nat × Bool)}
theorem Xc {el n bytes e : Nat} {v0 : Value} {zv : Value} {kk : IntKind} {j : Int} {cs : List CT} (i m : Nat) (hg : gd ops L g = some true) (hx : ev L x = some (.ct (.ex v0))) (hi : bget B i = some (.rowx v0 e n cs)) (hl : cs.length = m * n) (hy : ev L y = some (.ct (.ex (.int kk j)))) (hT : SlcT X.P t el n bytes zv) (h0 : 0 ≤ j) (hj : j < m)
    (hn : Nat.blt d X.n = true) (h : Ops X ops r ((d, .loc i (j.toNat * n)) :: L) B K) : Ops X ops (.cons ⟨some d, .indexAddr t x y, t', pos, af, g⟩ k r) L B K :=
  Xn (s := .loc i (j.toNat * n)) hg rfl hn (fun a ρ w hI => by
    have h1 : a.eval x = ρ i := by
      have : a.eval x = v0 := hI.evx hx; rw [this]; exact (hI.ent i _ hi).1.1.symm
    obtain ⟨nf, hi2, hs, _⟩ := hT.inf; obtain ⟨n', vs, how, hc⟩ := (hI.ent i _ hi).1.2; have hl' := hc.length; rw [how.1, hl] at hl'; have : n' = m := Nat.eq_of_mul_eq_mul_right hT.pos hl'; subst this; rcases how.2 with ⟨h2, h3⟩ | ⟨gb, cap, cur, h2, _⟩
    · omega
    · refine ⟨.pointer (some ⟨gb, j.toNat * n, none⟩), fun w' _ => ?_, gb, by rw [h2]; rfl, rfl⟩; show (do pure (Next.value (← Instr.indexAt t (a.eval x) (a.eval y))) : Sem Next).run X.P w' = _; rw [h1, h2, hI.evx hy]
      refine ZU ?_
      rw [run_index hT.und hi2 h0 (by omega), hs, Nat.zero_add]) h
theorem Ops.lenK {el n e : Nat} {v0 : Value} {cs : List CT} (i m : Nat) (hg : gd ops L g = some true) (hx : ev L x = some (.ct (.ex v0))) (hi : bget B i = some (.rowx v0 e n cs)) (hp : 0 < n) (hl : cs.length = m * n) (hu : X.P.underlying t = some (.slice el)) (hn : Nat.blt d X.n = true) (h : Ops X ops r ((d, .ct (.ex (.int .i64 m))) :: L) B K) :
    Ops X ops (.cons ⟨some d, .call { callee := .builtin .len, args := #[x], argTypes := #[t] }, t', pos, af, g⟩ k r) L B K :=
  Xn (s := .ct (.ex (.int .i64 m))) hg rfl hn (fun a ρ w hI => by
    have h1 : a.eval x = ρ i := by
      have : a.eval x = v0 := hI.evx hx; rw [this]; exact (hI.ent i _ hi).1.1.symm
    obtain ⟨ad, c, h2⟩ := row_len (hI.ent i _ hi).1.2 hp hl; refine ⟨_, fun w' _ => Yb (args := [x]) ?_, rfl⟩; intro _; simp only [List.map_cons, List.map_nil, h1, h2]
    exact run_lenSlice hu _ _ _ _ _) h
end Go.Own
namespace Go.Proofs.YtdhmbgogmoaofaaGreat
open Go.Own Go.Limbs
def linesB : Nat → List Value → List (List Int) → BL
  | _, [], _ => []
  | _, _, [] => []
  | k, h :: hl, z :: zs => (k, .rowx h 94 2 (whs z)) :: linesB (k + 1) hl zs
structure Tv where
  hR : Value
  hB : Value
  hC : Value
  hl : List Value
  rows : List (List Int)
  bas : List Int
  col : List Int
  den : Int
abbrev tabCs (T : Tv) : List CT := [.ex T.hR, .ex T.hB, .ex T.hC, boolC (decide (T.den < 0)), natC T.den.natAbs]
def tabB (T : Tv) : BL :=
  (0, .box 98 (tabCs T)) :: (1, .rowx T.hR 95 1 (T.hl.map CT.ex)) :: (2, .rowx T.hB 3 1 (ints T.bas)) :: (3, .rowx T.hC 3 1 (ints T.col)) :: linesB 10 T.hl T.rows
structure Fit (T : Tv) : Prop where
  hl : T.hl.length = T.rows.length
  row : ∀ i, i < T.rows.length → (T.rows.getD i []).length = T.col.length + 1
  bas : T.bas.length ≤ T.rows.length
  few : T.rows.length ≤ 100
  thin : T.col.length ≤ 100
def entS (gr col : List Int) : Nat → Int
  | 0 => -1
  | j + 1 => if gr.getD j 0 < 0 ∧ (entS gr col j < 0 ∨ col.getD j 0 < col.getD (entS gr col j).toNat 0) then j else entS gr col j
theorem entS_bd (gr col : List Int) : ∀ j, -1 ≤ entS gr col j ∧ entS gr col j < j
  | 0 => by simp [entS]
  | j + 1 => by
    have := entS_bd gr col j
    simp only [entS]; split <;> omega
attribute [local irreducible] St Ops Go.Own.Fin Ok OkM
end Go.Proofs.YtdhmbgogmoaofaaGreat
namespace Go.Proofs.YtdhmbgogmoaofaaGreat
open Go.Own Go.Limbs
attribute [local irreducible] St Ops Go.Own.Fin Ok OkM
abbrev Tv.at (T : Tv) (i j : Nat) : Int := (T.rows.getD i []).getD j 0
def levS (T : Tv) (s : Nat) : Nat → Int
  | 0 => -1
  | i + 1 => if T.at i s ≤ 0 then levS T s i else if levS T s i < 0 then i else
      if T.at i T.col.length * T.at (levS T s i).toNat s + -(T.at (levS T s i).toNat T.col.length * T.at i s) < 0 ∨ (T.at i T.col.length * T.at (levS T s i).toNat s + -(T.at (levS T s i).toNat T.col.length * T.at i s) = 0 ∧ T.bas.getD i 0 < T.bas.getD (levS T s i).toNat 0) then i else levS T s i
theorem levS_bd (T : Tv) (s : Nat) : ∀ i, -1 ≤ levS T s i ∧ levS T s i < i
  | 0 => by simp [levS]
  | i + 1 => by
    have := levS_bd T s i
    simp only [levS]; split
    · omega
    · split
      · omega
      · split <;> omega
def Shrt (T : Tv) : Prop := ∀ i j, (limbs (T.at i j).natAbs).length ≤ 60
def pvZ (p D : Int) (s : Nat) (rr line : List Int) (j : Nat) : Int := if j = s then -(line.getD s 0) else (line.getD j 0 * p + -(rr.getD j 0 * line.getD s 0)).tdiv D
def pvPre (p D : Int) (s : Nat) (rr line : List Int) (q : Nat) : List Int := (List.range line.length).map fun j => if j < q ∧ j ≠ s then pvZ p D s rr line j else line.getD j 0
def pvRow (p D : Int) (s : Nat) (rr line : List Int) : List Int := (List.range line.length).map (pvZ p D s rr line)
def pvRows (T : Tv) (r s q : Nat) : List (List Int) := (List.range T.rows.length).map fun i => if i < q ∧ i ≠ r then pvRow (T.at r s) T.den s (T.rows.getD r []) (T.rows.getD i []) else T.rows.getD i []
def negL (l : List Int) : List Int := l.map (fun z => -z)
def pvt (T : Tv) (r s : Nat) : Tv :=
  let rows := (pvRows T r s T.rows.length).set r ((T.rows.getD r []).set s T.den)
  { T with rows := if T.at r s < 0 then rows.map negL else rows, bas := T.bas.set r (T.col.getD s 0), col := T.col.set s (T.bas.getD r 0), den := if T.at r s < 0 then -(T.at r s) else T.at r s }
theorem pvRow_len (p D : Int) (s : Nat) (rr line : List Int) : (pvRow p D s rr line).length = line.length := by simp [pvRow]
theorem pvRows_len (T : Tv) (r s q : Nat) : (pvRows T r s q).length = T.rows.length := by simp [pvRows]
theorem range_getD {α : Type} (n : Nat) (f : Nat → α) (d : α) {j : Nat} (h : j < n) : ((List.range n).map f).getD j d = f j := by simp [List.getD_eq_getElem?_getD, h]
theorem range_self {α : Type} (l : List α) (d : α) : (List.range l.length).map (fun j => l.getD j d) = l := by
  apply List.ext_getElem (by simp)
  intro j h1 h2; simp [List.getD_eq_getElem?_getD, h2]
def negP (l : List Int) (q : Nat) : List Int := (List.range l.length).map fun j => if j < q then -(l.getD j 0) else l.getD j 0
def negR (l : List (List Int)) (q : Nat) : List (List Int) := (List.range l.length).map fun j => if j < q then negL (l.getD j []) else l.getD j []
end Go.Proofs.YtdhmbgogmoaofaaGreat
namespace Go.Own
theorem Za {X : Ctx} {L L' : AL} {B : BL} {K : Act → World → Prop} (h : Fin X L' B K) (hs : subL L L') : Fin X L B K := Fin.keep L' hs h
end Go.Own
namespace Go.Proofs.YtdhmbgogmoaofaaGreat
open Go.Own Go.Limbs
attribute [local irreducible] St Ops Go.Own.Fin Ok OkM
abbrev tb (T : Tv) (rows : List (List Int)) (bas col : List Int) (den : Int) : BL :=
  (0, .box 98 [.ex T.hR, .ex T.hB, .ex T.hC, boolC (decide (den < 0)), natC den.natAbs]) :: (1, .rowx T.hR 95 1 (T.hl.map CT.ex)) :: (2, .rowx T.hB 3 1 (ints bas)) :: (3, .rowx T.hC 3 1 (ints col)) :: linesB 10 T.hl rows
abbrev unitC : CT := .fr (tupT [])
theorem Z1 {α : Type} {l : List α} {i j : Nat} {x d : α} (h : i < l.length) : (l.set i x).getD j d = if i = j then x else l.getD j d := by
  simp only [List.getD_eq_getElem?_getD, List.getElem?_set]; by_cases hp : i = j
  · subst hp; simp [h]
  · simp [hp]
end Go.Proofs.YtdhmbgogmoaofaaGreat
namespace Go.Proofs.YtdhmbgogmoaofaaGreat
open Go.Own Go.Limbs
def beside (E : BL) : Bool := E.all fun p => Nat.ble 4 p.1 && Nat.blt p.1 10
def kpT (j : Nat) : Bool := Nat.beq j 0 || (Nat.ble 4 j && Nat.blt j 10)
section
variable {X : Ctx} {L : AL} {B : BL} {ops : Array Oper} {K : Act → World → Prop} {r : Pl} {k : Kd}
  {x y z : Operand} {d : Nat} {t t2 t' : TypeId} {pos : String} {af : Array Edge} {g : Option (Nat × Bool)}
theorem Ops.reB {l : Pl} {B' : BL} (hB : ∀ j, bget B' j = bget B j) (h : Ops X ops l L B' K) : Ops X ops l L B K := fun a ρ w hI => h a ρ w (hI.bext hB)
end
structure Gd (T : Tv) : Prop where
  fit : Fit T
  short : Shrt T
  den : 0 < T.den
  dens : (limbs T.den.natAbs).length ≤ 60
def RunOk (gi : Nat) (T' : Tv) (s : Int) : Nat → Tv → Prop
  | 0, T => Gd T ∧ T = T' ∧ ((entS (T.rows.getD gi []) T.col T.col.length < 0 ∧ s = -1) ∨ (0 ≤ entS (T.rows.getD gi []) T.col T.col.length ∧ levS T (entS (T.rows.getD gi []) T.col T.col.length).toNat T.bas.length < 0 ∧ s = entS (T.rows.getD gi []) T.col T.col.length))
  | k + 1, T => Gd T ∧ 0 ≤ entS (T.rows.getD gi []) T.col T.col.length ∧ 0 ≤ levS T (entS (T.rows.getD gi []) T.col T.col.length).toNat T.bas.length ∧
      RunOk gi T' s k (pvt T (levS T (entS (T.rows.getD gi []) T.col T.col.length).toNat T.bas.length).toNat (entS (T.rows.getD gi []) T.col T.col.length).toNat)
theorem Zk (T : Tv) (r s : Nat) : (pvt T r s).rows.length = T.rows.length := by
  unfold pvt; dsimp only; split
  · rw [List.length_map, List.length_set, pvRows_len]
  · rw [List.length_set, pvRows_len]
attribute [local irreducible] St Ops Go.Own.Fin Ok OkM
end Go.Proofs.YtdhmbgogmoaofaaGreat
namespace Go.Own
open Go.RowKit
def wpAnyL (P : Program) (ops : Array Oper) (K : Act → World → Prop) (late : List Nat) : Nat → Array Bool → Act → World → Prop
  | 0, listed, a, w => Region.ready .any ops listed = [] ∧ K a w
  | fuel + 1, listed, a, w => (Region.ready .any ops listed = [] → K a w) ∧
      ∀ i ∈ Region.ready .any ops listed, wpOp P ops (only K) i (fun a' w' => (late.contains i = false → Below w.heap.size w w') ∧ wpAnyL P ops K late fuel (listed.setIfInBounds i true) a' w') a w
theorem wpAny_of_L {P : Program} {ops : Array Oper} {K : Act → World → Prop} {late : List Nat} : ∀ (fuel : Nat) (listed : Array Bool) (a : Act) (w : World), wpAnyL P ops K late fuel listed a w → wpAny P .any ops (only K) fuel listed a w
  | 0, _, _, _, h => h
  | fuel + 1, _, _, _, h => ⟨h.1, fun i hi => wpOp_mono (fun a' w' h' => wpAny_of_L fuel _ a' w' h'.2) (h.2 i hi)⟩
def needs (ops : Array Oper) (i : Nat) : Nat → Nat → Bool
  | 0, _ => false
  | n + 1, j => match ops[j]? with
    | some oj => oj.after.any fun e => Region.binds .any e && (e.on == i || needs ops i n e.on)
    | none => false
def waitsL (ops : Array Oper) (late : List Nat) (listed : Array Bool) (i : Nat) : Bool := late.all fun j => listed.getD j true || needs ops i ops.size j
theorem needs_spec {ops : Array Oper} {i : Nat} {listed : Array Bool} (hs : Shut ops listed) : ∀ (n j : Nat), needs ops i n j = true → (∀ oj, ops[j]? = some oj → ∀ e ∈ oj.after, Region.binds .any e = true → listed.getD e.on false = true) → listed.getD i false = true
  | 0, _, h, _ => by cases h
  | n + 1, j, h, hj => by
    simp only [needs] at h
    cases ho : ops[j]? with
    | none => rw [ho] at h; cases h
    | some oj =>
      rw [ho] at h
      obtain ⟨e, he, hb⟩ := Array.any_eq_true'.1 h
      simp only [Bool.and_eq_true, Bool.or_eq_true, beq_iff_eq] at hb
      have hl := hj oj ho e he hb.1
      rcases hb.2 with h2 | h2
      · rw [← h2]; exact hl
      · exact needs_spec hs n e.on h2 (fun ok hk e' he' hb' => hs e.on ok hk hl e' he' hb')
theorem waitsL_spec {ops : Array Oper} {late : List Nat} {listed0 listed : Array Bool} {i : Nat} (h : waitsL ops late listed0 i = true) (hm : ∀ j, listed0.getD j true = true → listed.getD j true = true) (hs : Shut ops listed) (hi : listed.getD i false = false) {j : Nat} (hj : j ∈ Region.ready .any ops listed) : late.contains j = false := by
  cases hl : late.contains j with
  | false => rfl
  | true =>
    exfalso; obtain ⟨hun, oj, hoj, hall⟩ := mem_ready.1 hj; simp only [waitsL, List.all_eq_true] at h; have h1 := h j (by simpa using hl); rw [Bool.or_eq_true] at h1; rcases h1 with h1 | h1
    · rw [hm j h1] at hun; cases hun
    · have := needs_spec hs _ j h1 (fun ok hk e he hb => by rw [hoj] at hk; injection hk with hk; subst hk; exact hall e he hb); rw [this] at hi; cases hi
theorem getD_mono {listed : Array Bool} {i j : Nat} (h : listed.getD j true = true) : (listed.setIfInBounds i true).getD j true = true := by
  by_cases hij : i = j
  · subst hij; rcases Nat.lt_or_ge i listed.size with h' | h'
    · simp [h']
    · simp [h']
  · rw [getD_set_ne true hij]; exact h
theorem wpAnyL_first {P : Program} {ops : Array Oper} {K : Act → World → Prop} {late : List Nat} {i : Nat} {oi : Oper} {v : Value} {listed0 : Array Bool} (hi : ops[i]? = some oi)
    (hsel : ∀ (j : Nat) (o : Oper) cs b, ops[j]? = some o → o.op ≠ .select cs b) (htail : waitsL ops late listed0 i = true) :
    ∀ (fuel : Nat) (listed : Array Bool) (a : Act) (w : World), Shut ops listed → (∀ j, listed0.getD j true = true → listed.getD j true = true) →
      (∀ j oj, ops[j]? = some oj → j ≠ i → listed.getD j true = false → (∀ e ∈ oj.after, Region.binds .any e = true → e.on ≠ i) → oi.apart ops oj = true) →
      i ∈ Region.ready .any ops listed → YieldsIf P ops (fun x => Below w.heap.size w x) oi v a →
      wpAnyL P ops K late fuel (listed.setIfInBounds i true) (a.put oi.dst v) w → wpAnyL P ops K late (fuel + 1) listed a w := by
  intro fuel
  induction fuel with
  | zero =>
    intro listed a w _ _ _ hr hy H; refine ⟨fun h => (by rw [h] at hr; cases hr), fun j hj => ?_⟩; by_cases hji : j = i
    · subst hji; exact hy.wpOp hi (Below.refl _ _) ⟨fun _ => Below.refl _ _, H⟩
    · have := ready_mono hj hji; rw [H.1] at this; cases this
  | succ fuel ih =>
    intro listed a w hsh hm hfree hr hy H; refine ⟨fun h => (by rw [h] at hr; cases hr), fun j hj => ?_⟩; by_cases hji : j = i
    · subst hji; exact hy.wpOp hi (Below.refl _ _) ⟨fun _ => Below.refl _ _, H⟩
    · have h1 := H.2 j (ready_mono hj hji); obtain ⟨hjun, oj, hoj, hall⟩ := mem_ready.1 hj
      have hun : listed.getD i false = false := by
        have h0 := (mem_ready.1 hr).1; rcases Nat.lt_or_ge i listed.size with h' | h'
        · simpa [h'] using h0
        · simp [h'] at h0
      have hnot : ∀ e ∈ oj.after, Region.binds .any e = true → e.on ≠ i := fun e he hb heq => by
        have h1 := hall e he hb; rw [heq, hun] at h1; cases h1
      have hjN : late.contains j = false := waitsL_spec htail hm hsh hun hj; have h2 := wpOp_putIf hoj (hfree j oj hoj hji hjun hnot) (fun cs b => hsel i oi cs b hi) (fun cs b => hsel j oj cs b hoj) (fun _ _ _ h => h.elim) hy h1
      have hfree' : ∀ k ok, ops[k]? = some ok → k ≠ i → (listed.setIfInBounds j true).getD k true = false →
          (∀ e ∈ ok.after, Region.binds .any e = true → e.on ≠ i) → oi.apart ops ok = true := fun k ok hk hki hun hno => by
        refine hfree k ok hk hki ?_ hno
        by_cases hjk : j = k
        · subst hjk; exact hjun
        · rw [getD_set_ne true hjk] at hun; exact hun
      refine wpOp_mono (fun a' w' h3 => ⟨h3.2.1, ih (listed.setIfInBounds j true) a' w' (hsh.step hj) (fun q hq => getD_mono (hm q hq)) hfree' (ready_mono hr (Ne.symm hji)) (yields_later h3.1 (h3.2.1 hjN)) ?_⟩) h2; rw [Array.setIfInBounds_comm _ _ hji]; exact h3.2.2
theorem wpAnyL_firstP {P : Program} {ops : Array Oper} {K : Act → World → Prop} {late : List Nat} {i : Nat} {oi : Oper} {v : Value} (hi : ops[i]? = some oi)
    (hsel : ∀ (j : Nat) (o : Oper) cs b, ops[j]? = some o → o.op ≠ .select cs b) :
    ∀ (fuel : Nat) (listed : Array Bool) (a : Act) (w : World),
      (∀ j oj, ops[j]? = some oj → j ≠ i → listed.getD j true = false → (∀ e ∈ oj.after, Region.binds .any e = true → e.on ≠ i) → oi.apart ops oj = true) →
      i ∈ Region.ready .any ops listed → Yields P ops oi v a →
      wpAnyL P ops K late fuel (listed.setIfInBounds i true) (a.put oi.dst v) w → wpAnyL P ops K late (fuel + 1) listed a w := by
  intro fuel
  induction fuel with
  | zero =>
    intro listed a w _ hr hy H; refine ⟨fun h => (by rw [h] at hr; cases hr), fun j hj => ?_⟩; by_cases hji : j = i
    · subst hji; exact hy.wpOp hi ⟨fun _ => Below.refl _ _, H⟩
    · have := ready_mono hj hji; rw [H.1] at this; cases this
  | succ fuel ih =>
    intro listed a w hfree hr hy H; refine ⟨fun h => (by rw [h] at hr; cases hr), fun j hj => ?_⟩; by_cases hji : j = i
    · subst hji; exact hy.wpOp hi ⟨fun _ => Below.refl _ _, H⟩
    · have h1 := H.2 j (ready_mono hj hji); obtain ⟨hjun, oj, hoj, hall⟩ := mem_ready.1 hj
      have hnot : ∀ e ∈ oj.after, Region.binds .any e = true → e.on ≠ i := fun e he hb heq => by
        have h1 := hall e he hb; have h0 := (mem_ready.1 hr).1; rw [heq] at h1; rcases Nat.lt_or_ge i listed.size with h' | h'
        · simp [h'] at h0 h1; rw [h0] at h1; cases h1
        · simp [Array.getElem?_eq_none h'] at h1
      have h2 := wpOp_put hoj (hfree j oj hoj hji hjun hnot) (fun cs b => hsel i oi cs b hi) (fun cs b => hsel j oj cs b hoj) (fun _ _ _ h => h.elim) hy h1
      have hfree' : ∀ k ok, ops[k]? = some ok → k ≠ i → (listed.setIfInBounds j true).getD k true = false →
          (∀ e ∈ ok.after, Region.binds .any e = true → e.on ≠ i) → oi.apart ops ok = true := fun k ok hk hki hun hno => by
        refine hfree k ok hk hki ?_ hno
        by_cases hjk : j = k
        · subst hjk; exact hjun
        · rw [getD_set_ne true hjk] at hun; exact hun
      refine wpOp_mono (fun a' w' h3 => ⟨h3.2.1, ih (listed.setIfInBounds j true) a' w' hfree' (ready_mono hr (Ne.symm hji)) h3.1 ?_⟩) h2; rw [Array.setIfInBounds_comm _ _ hji]; exact h3.2.2
def chkL (ops : Array Oper) (late : List Nat) : Od → Nat → Array Bool → Bool
  | .done, _, listed => (Region.ready .any ops listed).isEmpty
  | _, 0, _ => false
  | .p i r, n + 1, listed => (Region.ready .any ops listed).contains i && Region.free .any ops listed i && chkL ops late r n (listed.setIfInBounds i true)
  | .f i r, n + 1, listed => (Region.ready .any ops listed).contains i && Region.free .any ops listed i && waitsL ops late listed i && chkL ops late r n (listed.setIfInBounds i true)
  | .m i r, n + 1, listed => Region.ready .any ops listed == [i] && !late.contains i && chkL ops late r n (listed.setIfInBounds i true)
  | .a i r, n + 1, listed => Region.ready .any ops listed == [i] && late.contains i && chkL ops late r n (listed.setIfInBounds i true)
  | .fork i r j s, n + 1, listed => Region.ready .any ops listed == [i, j] && !late.contains i && !late.contains j && chkL ops late r n (listed.setIfInBounds i true) && chkL ops late s n (listed.setIfInBounds j true)
variable {X : Ctx} {L : AL} {B : BL}
end Go.Own
namespace Go.Own
section
variable {P : Program} {n : Nat} {S : BSet} {w0 : World} {B0 : BL} {fx : List Nat} {ρ0 : Nat → Value} {α : Type} {J : α → Prop} {R : α → Sl} {B1 : α → BL} {L : AL} {B : BL}
theorem Is.postMS {a : Act} {ρ : Nat → Value} {w : World} {v : Value} (hI : Is (lentM P n S w0 B0 fx ρ0) L B a ρ w) (q : α) (hB : ∀ i e, bget (B1 q) i = some e → bget B i = some e) (hfx1 : ∀ i ∈ fx, isBx (bget (B1 q) i) = true) (hJ : J q) (hv : (R q).p (Sof (lentM P n S w0 B0 fx ρ0) B ρ) ρ w v) : Own.postM S w0 ρ0 B0 fx J R B1 (.returned v) w := by
  have hk : Kp (Sof (lentM P n S w0 B0 fx ρ0) B ρ) (Sn S (B1 q) ρ) w w := ⟨Nat.le_refl _, fun k _ h => ⟨⟨h.1, fun i e hi => h.2 i e (hB i e hi)⟩, rfl⟩⟩; refine ⟨v, q, ρ, rfl, hJ, Sl.mono hk hv, ⟨fun i e hi => Ent.keep hk (fun _ _ _ => rfl) (hI.ent i e (hB i e hi)).1, fun i j e e' hi hj => hI.apart i j e e' (hB i e hi) (hB j e' hj)⟩, fun i hi => ⟨hfx1 i hi, ?_⟩, fun i e hi gb hgb => (hI.ent i e (hB i e hi)).2 gb hgb, hI.frame⟩; exact (hI.fixd (i, ρ0 i) (List.mem_map.2 ⟨i, hi, rfl⟩)).2
theorem Fin.retMSG {fn : Func} {cs : List CT} {rv : List ResultVar} (q : α) (hfn : fn.results = rv.toArray) (hr : AllRes (lentM P n S w0 B0 fx ρ0) L B rv cs) (hR : R q = .ct (retC cs)) (hB : ∀ i e, bget (B1 q) i = some e → bget B i = some e) (hfx1 : ∀ i ∈ fx, isBx (bget (B1 q) i) = true) (hJ : J q) :
    ∀ a ρ w, Is (lentM P n S w0 B0 fx ρ0) L B a ρ w → a.defers = [] ∧ ∃ v, (results fn a.tmps).run P w = .ok v w ∧ Own.postM S w0 ρ0 B0 fx J R B1 (.returned v) w := fun a ρ w hI => by
  obtain ⟨v, h1, h2⟩ := results_run hfn hr hI
  exact ⟨hI.defers, v, h1, hI.postMS q hB hfx1 hJ (by rw [hR]; exact h2)⟩
theorem Fin.retMS {fn : Func} {cs : List CT} (q : α) (rv : List ResultVar) (hfn : fn.results = rv.toArray) (hr : AllRes (lentM P n S w0 B0 fx ρ0) L B rv cs) (hR : R q = .ct (retC cs)) (hB : ∀ i e, bget (B1 q) i = some e → bget B i = some e) (hfx1 : ∀ i ∈ fx, isBx (bget (B1 q) i) = true) (hJ : J q) :
    Fin (lentM P n S w0 B0 fx ρ0) L B (fun a w => bodyPost P fn (Own.postM S w0 ρ0 B0 fx J R B1) .ret a w) := Fin.retMSG q hfn hr hR hB hfx1 hJ
end
end Go.Own
namespace Go.Proofs.YtdhmbgogmoaofaaGreat
open Go.Own Go.Limbs
attribute [local irreducible] St Ops Go.Own.Fin Ok OkM
def shq (a D : Int) : Rat := mkRat a D.natAbs
def frO : Option Rat → List CT
  | none => [boolC false, .ex (.slice none 0 0), .ex (.slice none 0 0)]
  | some q => frCs (ofQ q)
theorem frO_len (o : Option Rat) : (frO o).length = 3 := by cases o <;> rfl
def frR (l : List (Option Rat)) : List CT := (l.map frO).flatten
theorem ZW (l : List (Option Rat)) : (frR l).length = l.length * 3 := by
  unfold frR; rw [Xm (k := 3) (by intro e he; obtain ⟨o, _, rfl⟩ := List.mem_map.1 he; exact frO_len o)]; simp
theorem frR_put {l : List (Option Rat)} {j : Nat} (q : Rat) (h : j < l.length) : (frR l).take (j * 3) ++ frCs (ofQ q) ++ (frR l).drop (j * 3 + 3) = frR (l.set j (some q)) := by
  induction l generalizing j with
  | nil => simp at h
  | cons o l ih =>
    have e : ∀ (o : Option Rat) (l : List (Option Rat)), frR (o :: l) = frO o ++ frR l := fun _ _ => rfl
    have h3 := frO_len o
    have t1 : ∀ m, (frO o ++ frR l).take (3 + m) = frO o ++ (frR l).take m := fun m => by rw [List.take_append, h3, List.take_of_length_le (by omega), show 3 + m - 3 = m by omega]
    have t2 : ∀ m, (frO o ++ frR l).drop (3 + m) = (frR l).drop m := fun m => by rw [List.drop_append, h3, List.drop_of_length_le (by omega), show 3 + m - 3 = m by omega]; rfl
    cases j with
    | zero =>
      have := t2 0; rw [List.set_cons_zero, e, e, show 0 * 3 + 3 = 3 + 0 by omega, this]; rfl
    | succ j =>
      have := ih (j := j) (by simpa using h); rw [List.set_cons_succ, e, e, ← this, show (j + 1) * 3 = 3 + j * 3 by omega, show 3 + j * 3 + 3 = 3 + (j * 3 + 3) by omega, t1, t2]; simp
theorem frR_made (n : Nat) : zinit (.agg #[.bool false, .slice none 0 0, .slice none 0 0]) n = frR (List.replicate n none) := by
  unfold zinit frR; rw [List.map_replicate]; rfl
section
variable {X : Ctx} {L : AL} {B : BL} {ops : Array Oper} {K : Act → World → Prop} {r : Pl} {k : Kd}
  {x y z : Operand} {d : Nat} {t t2 t' : TypeId} {pos : String} {af : Array Edge} {g : Option (Nat × Bool)}
theorem stFr {i j el : Nat} {l : List (Option Rat)} {q : Rat} (hg : gd ops L g = some true) (hx : ev L x = some (.loc i (j * 3))) (hi : bget B i = some (.row el 3 (frR l))) (hy : ev L y = some (.ct (ratC q))) (hj : j < l.length) (hsz : (X.P.info? t).map (·.size) = some 3)
    (h : Ops X ops r L (bset B i (.row el 3 (frR (l.set j (some q))))) K) : Ops X ops (.cons ⟨none, .store t x y, t', pos, af, g⟩ .any r) L B K :=
  Ops.stNA hg hx hi hy rfl hsz (by show j * 3 + 3 ≤ (frR l).length; rw [ZW]; omega) (by
    have : (Ent.row el 3 (frR l)).putc (j * 3) (frCs (ofQ q)) = .row el 3 (frR (l.set j (some q))) := by rw [← frR_put q hj]; rfl
    rw [this]; exact h)
end
theorem shq_zero (D : Int) : shq 0 D = 0 := by unfold shq; exact Rat.zero_mkRat _
def ptS (T : Tv) (n : Nat) : Nat → List Rat
  | 0 => List.replicate n 0
  | i + 1 => if T.bas.getD i 0 < n then (ptS T n i).set (T.bas.getD i 0).toNat (shq (T.at i T.col.length) T.den) else ptS T n i
theorem ptS_len (T : Tv) (n : Nat) : ∀ i, (ptS T n i).length = n
  | 0 => by simp [ptS]
  | i + 1 => by simp only [ptS]; split <;> simp [ptS_len T n i]
end Go.Proofs.YtdhmbgogmoaofaaGreat
namespace Go.Proofs.YtdhmbgogmoaofaaGreat
open Go.Own Go.Limbs
attribute [local irreducible] St Ops Go.Own.Fin Ok OkM
def duS (T : Tv) (n m gi : Nat) : Nat → List Rat
  | 0 => List.replicate m 0
  | j + 1 => if (n : Int) ≤ T.col.getD j 0 ∧ T.col.getD j 0 < n + m then (duS T n m gi j).set (T.col.getD j 0 - n).toNat (shq (T.at gi j) T.den) else duS T n m gi j
theorem duS_len (T : Tv) (n m gi : Nat) : ∀ i, (duS T n m gi i).length = m
  | 0 => by simp [duS]
  | i + 1 => by simp only [duS]; split <;> simp [duS_len T n m gi i]
end Go.Proofs.YtdhmbgogmoaofaaGreat
namespace Go.Own
open Go.RowKit
variable {X : Ctx} {L : AL} {B : BL} {ops : Array Oper} {K : Act → World → Prop} {r : Pl} {k : Kd}
  {x y z : Operand} {d : Nat} {t t2 t' : TypeId} {pos : String} {af : Array Edge} {g : Option (Nat × Bool)}
theorem Zq {c y : Code} {Q : Exit → Act → World → Prop} {α : Type} (J : α → Prop) (Lx : α → AL) (Bx : α → BL) (h1 : ∀ q, J q → St X (Lx q) (Bx q) y Q)
    (h2 : ∀ K : Exit → Act → World → Prop, (∀ q, J q → Fin X (Lx q) (Bx q) (fun a w => K .normal a w)) → St X L B c K) : St X L B c (Exit.then (y.wp X.P Q) Q) :=
  h2 _ (fun q hq => h1 q hq)
theorem Fin.nameS (dd i m : Nat) {el n : Nat} {cs : List CT} (hd : look L dd = some (.own i)) (hi : bget B i = some (.row el n cs)) (hl : cs.length = m * n) (hm : 0 < m) (hp : 0 < n)
    (h : ∀ gb c, m ≤ c → c ≤ maxLen → Fin X ((dd, .ct (.ex (.slice (some ⟨gb, 0, none⟩) m c))) :: L) (bset B i (.rowx (.slice (some ⟨gb, 0, none⟩) m c) el n cs)) K) : Fin X L B K := fun a ρ w hI => by
  have h1 : a.tmps.getD dd undef = ρ i := hI.slot dd _ hd
  obtain ⟨n', vs, how, hc⟩ := (hI.ent i _ hi).1
  have hl' := hc.length
  rw [how.1, hl] at hl'
  have hnm : n' = m := Nat.eq_of_mul_eq_mul_right hp hl'
  subst hnm
  rcases how.2 with ⟨h2, h3⟩ | ⟨gb, cap, cur, h2, h3, h4, h5, h6⟩
  · omega
  · have hx : (Ent.rowx (.slice (some ⟨gb, 0, none⟩) n' cap) el n cs).ok (Sof X B ρ) w (ρ i) := ⟨h2, n', vs, how, hc⟩
    refine h gb cap (by omega) ?_ a ρ w ((hI.retype (e' := .rowx (.slice (some ⟨gb, 0, none⟩) n' cap) el n cs) hi hx rfl).slotx (s := .ct (.ex _)) (h1.trans h2))
    omega
end Go.Own
namespace Go.Proofs.YtdhmbgogmoaofaaGreat
open Go.Own Go.Limbs
attribute [local irreducible] St Ops Go.Own.Fin Ok OkM
def raS (T : Tv) (n s : Nat) : Nat → List Rat
  | 0 => if T.col.getD s 0 < n then (List.replicate n 0).set (T.col.getD s 0).toNat (shq T.den T.den) else List.replicate n 0
  | i + 1 => if T.bas.getD i 0 < n then (raS T n s i).set (T.bas.getD i 0).toNat (shq (-(T.at i s)) T.den) else raS T n s i
theorem raS_len (T : Tv) (n s : Nat) : ∀ i, (raS T n s i).length = n
  | 0 => by simp only [raS]; split <;> simp
  | i + 1 => by simp only [raS]; split <;> simp [raS_len T n s i]
end Go.Proofs.YtdhmbgogmoaofaaGreat
namespace Go.Own
open Go.RowKit
inductive Oq where
  | done
  | non
  | p (i : Nat) (r : Oq)
  | f (i : Nat) (r : Oq)
  | m (i : Nat) (r o : Oq)
  | a (i : Nat) (r o : Oq)
def wpQ (P : Program) (l : List Oper) (K : Act → World → Prop) : Oq → Act → World → Prop
  | .done, a, w => K a w
  | .non, _, _ => True
  | .p i r, a, w => ∃ v, Yields P l.toArray (nth l i) v a ∧ wpQ P l K r (a.put (nth l i).dst v) w
  | .f i r, a, w => ∃ v, YieldsIf P l.toArray (fun w' => Below w.heap.size w w') (nth l i) v a ∧ wpQ P l K r (a.put (nth l i).dst v) w
  | .m i r o, a, w => wpO P l.toArray (fun a' w' => Below w.heap.size w w' ∧ wpQ P l K r a' w') (nth l i) a w ∧ wpQ P l K o a w
  | .a i r o, a, w => wpO P l.toArray (fun a' w' => wpQ P l K r a' w') (nth l i) a w ∧ wpQ P l K o a w
def altsQ : Oq → List Nat
  | .m i _ o => i :: altsQ o
  | .a i _ o => i :: altsQ o
  | _ => []
def chkQ (ops : Array Oper) (late : List Nat) : Bool → Oq → Nat → Array Bool → Bool
  | true, .done, _, listed => (Region.ready .any ops listed).isEmpty
  | true, .p i r, n + 1, listed => (Region.ready .any ops listed).contains i && Region.free .any ops listed i && chkQ ops late true r n (listed.setIfInBounds i true)
  | true, .f i r, n + 1, listed => (Region.ready .any ops listed).contains i && Region.free .any ops listed i && waitsL ops late listed i && chkQ ops late true r n (listed.setIfInBounds i true)
  | tp, .m i r o, n + 1, listed => (!tp || Region.ready .any ops listed == altsQ (.m i r o)) && !late.contains i && chkQ ops late true r n (listed.setIfInBounds i true) && chkQ ops late false o (n + 1) listed
  | tp, .a i r o, n + 1, listed => (!tp || Region.ready .any ops listed == altsQ (.a i r o)) && late.contains i && chkQ ops late true r n (listed.setIfInBounds i true) && chkQ ops late false o (n + 1) listed
  | false, .non, _, _ => true
  | _, _, _, _ => false
theorem anyL_ofQ {P : Program} {l : List Oper} {K : Act → World → Prop} {late : List Nat} (hs : Region.noSelect l.toArray = true) :
    ∀ (ord : Oq) (fuel : Nat) (listed : Array Bool) (a : Act) (w : World), Shut l.toArray listed →
      (chkQ l.toArray late true ord fuel listed = true → wpQ P l K ord a w → wpAnyL P l.toArray K late fuel listed a w) ∧
      (∀ f, fuel = f + 1 → chkQ l.toArray late false ord fuel listed = true → wpQ P l K ord a w → ∀ j ∈ altsQ ord, j ∈ Region.ready .any l.toArray listed → wpOp P l.toArray (only K) j (fun a' w' => (late.contains j = false → Below w.heap.size w w') ∧ wpAnyL P l.toArray K late f (listed.setIfInBounds j true) a' w') a w) := by
  have hidx : ∀ {listed : Array Bool} {i : Nat}, i ∈ Region.ready .any l.toArray listed → l.toArray[i]? = some (nth l i) := fun h => nth_eq (by simpa using ready_lt h)
  intro ord
  induction ord with
  | done =>
    intro fuel listed a w _; refine ⟨fun hc h => ?_, fun f hf hc h j hj => by cases hj⟩
    have hr : Region.ready .any l.toArray listed = [] := by
      cases fuel <;> simpa [chkQ] using hc
    cases fuel with
    | zero => exact ⟨hr, h⟩
    | succ f => exact ⟨fun _ => h, by rw [hr]; simp⟩
  | non => intro fuel listed a w _; exact ⟨fun hc h => by simp [chkQ] at hc, fun f hf hc h j hj => by cases hj⟩
  | p i r ih =>
    intro fuel listed a w hsh; refine ⟨fun hc h => ?_, fun f hf hc h j hj => by cases hj⟩
    cases fuel with
    | zero => simp [chkQ] at hc
    | succ f =>
      simp only [chkQ, Bool.and_eq_true] at hc; obtain ⟨⟨hr, hfr⟩, hc2⟩ := hc
      have hr' : i ∈ Region.ready .any l.toArray listed := by simpa using hr
      obtain ⟨v, hy, h⟩ := h; exact wpAnyL_firstP (hidx hr') (Region.noSelect_spec hs) f listed a w (Region.free_spec (hidx hr') hfr) hr' hy ((ih f _ _ _ (hsh.step hr')).1 hc2 h)
  | f i r ih =>
    intro fuel listed a w hsh; refine ⟨fun hc h => ?_, fun f hf hc h j hj => by cases hj⟩
    cases fuel with
    | zero => simp [chkQ] at hc
    | succ f =>
      simp only [chkQ, Bool.and_eq_true] at hc; obtain ⟨⟨⟨hr, hfr⟩, hw⟩, hc2⟩ := hc
      have hr' : i ∈ Region.ready .any l.toArray listed := by simpa using hr
      obtain ⟨v, hy, h⟩ := h; exact wpAnyL_first (hidx hr') (Region.noSelect_spec hs) hw f listed a w hsh (fun _ h => h) (Region.free_spec (hidx hr') hfr) hr' hy ((ih f _ _ _ (hsh.step hr')).1 hc2 h)
  | m i r o ih1 ih2 =>
    have key : ∀ (fuel : Nat) (listed : Array Bool) (a : Act) (w : World), Shut l.toArray listed → ∀ f, fuel = f + 1 → chkQ l.toArray late false (.m i r o) fuel listed = true → wpQ P l K (.m i r o) a w → ∀ j ∈ altsQ (.m i r o), j ∈ Region.ready .any l.toArray listed → wpOp P l.toArray (only K) j (fun a' w' => (late.contains j = false → Below w.heap.size w w') ∧ wpAnyL P l.toArray K late f (listed.setIfInBounds j true) a' w') a w := by
      intro fuel listed a w hsh f hf hc h j hj hr; subst hf; simp only [chkQ, Bool.and_eq_true] at hc; obtain ⟨⟨_, hc1⟩, hc2⟩ := hc; rcases List.mem_cons.1 hj with rfl | hj
      · exact YV (hidx hr) (YQ h.1 fun a' w' h' => ⟨fun _ => h'.1, (ih1 f _ _ _ (hsh.step hr)).1 hc1 h'.2⟩)
      · exact (ih2 (f + 1) listed a w hsh).2 f J hc2 h.2 j hj hr
    intro fuel listed a w hsh; refine ⟨fun hc h => ?_, key fuel listed a w hsh⟩
    cases fuel with
    | zero => simp [chkQ] at hc
    | succ f =>
      simp only [chkQ, Bool.and_eq_true, Bool.not_true, Bool.false_or, beq_iff_eq] at hc; obtain ⟨⟨⟨hr, hN⟩, hc1⟩, hc2⟩ := hc; refine ⟨(fun h0 => by rw [hr] at h0; simp [altsQ] at h0), fun j hj => ?_⟩; exact key (f + 1) listed a w hsh f J (by simp only [chkQ, hN, hc1, hc2, Bool.not_false, Bool.true_or, Bool.and_self]) h j (by rw [← hr]; exact hj) hj
  | a i r o ih1 ih2 =>
    have key : ∀ (fuel : Nat) (listed : Array Bool) (a : Act) (w : World), Shut l.toArray listed → ∀ f, fuel = f + 1 → chkQ l.toArray late false (.a i r o) fuel listed = true → wpQ P l K (.a i r o) a w → ∀ j ∈ altsQ (.a i r o), j ∈ Region.ready .any l.toArray listed → wpOp P l.toArray (only K) j (fun a' w' => (late.contains j = false → Below w.heap.size w w') ∧ wpAnyL P l.toArray K late f (listed.setIfInBounds j true) a' w') a w := by
      intro fuel listed a w hsh f hf hc h j hj hr; subst hf; simp only [chkQ, Bool.and_eq_true] at hc; obtain ⟨⟨⟨_, hl⟩, hc1⟩, hc2⟩ := hc; rcases List.mem_cons.1 hj with rfl | hj
      · exact YV (hidx hr) (YQ h.1 fun a' w' h' => ⟨(fun hlt => by rw [hlt] at hl; cases hl), (ih1 f _ _ _ (hsh.step hr)).1 hc1 h'⟩)
      · exact (ih2 (f + 1) listed a w hsh).2 f J hc2 h.2 j hj hr
    intro fuel listed a w hsh; refine ⟨fun hc h => ?_, key fuel listed a w hsh⟩
    cases fuel with
    | zero => simp [chkQ] at hc
    | succ f =>
      simp only [chkQ, Bool.and_eq_true, Bool.not_true, Bool.false_or, beq_iff_eq] at hc; obtain ⟨⟨⟨hr, hN⟩, hc1⟩, hc2⟩ := hc; refine ⟨(fun h0 => by rw [hr] at h0; simp [altsQ] at h0), fun j hj => ?_⟩; exact key (f + 1) listed a w hsh f J (by simp only [chkQ, hN, hc1, hc2, Bool.not_false, Bool.true_or, Bool.and_self]) h j (by rw [← hr]; exact hj) hj
variable {X : Ctx} {L : AL} {B : BL} {K : Act → World → Prop}
theorem St.drawQ {id : Nat} {l : List Oper} {Q : Exit → Act → World → Prop} (hm : X.P.follows .mixedOrders = true) (late : List Nat) (ord : Oq)
    (hc : (Region.noSelect l.toArray && chkQ l.toArray late true ord l.length (Array.replicate l.length false)) = true)
    (h : ∀ K, (∀ L' B', Fin X L' B' (fun a w => Q .normal a w) → Fin X L' B' K) → Fin X L B (wpQ X.P l K ord)) : St X L B (.region id l.toArray true) Q := by
  intro a ρ w hI; simp only [Bool.and_eq_true] at hc; obtain ⟨hs, hc⟩ := hc; have h1 := h _ (fun _ _ h => h) a ρ _ (hI.below (Below.drewOnce w)); have h2 := (anyL_ofQ hs ord l.length _ a _ (Shut.start _ _)).1 hc h1; have h3 := wpAny_of_L _ _ _ _ h2
  refine Go.wp_mono (wp_region_any (Q := only fun a w => Q .normal a w) hm ?_) ?_
  · simpa using h3
  · intro e a w h
    cases e with
    | normal => exact h
    | exit _ => exact h.elim
    | goto _ => exact h.elim
    | ret => exact h.elim
    | panic _ => exact h.elim
    | outgrown => exact h.elim
theorem Xo {l : List Oper} (h : Fin X L B K) : Fin X L B (wpQ X.P l K .done) := h
theorem Qo {l : List Oper} : Fin X L B (wpQ X.P l K .non) := fun _ _ _ _ => trivial
theorem X3 {l : List Oper} {i : Nat} {r : Oq} (h : Ops X l.toArray (.cons (nth l i) .pure .nil) L B (wpQ X.P l K r)) : Fin X L B (wpQ X.P l K (.p i r)) := h
theorem Fin.qf {l : List Oper} {i : Nat} {r : Oq} (h : Ops X l.toArray (.cons (nth l i) .free .nil) L B (wpQ X.P l K r)) : Fin X L B (wpQ X.P l K (.f i r)) := h
theorem Xi {l : List Oper} {i : Nat} {r o : Oq} (h : Ops X l.toArray (.cons (nth l i) .makes .nil) L B (wpQ X.P l K r)) (h2 : Fin X L B (wpQ X.P l K o)) : Fin X L B (wpQ X.P l K (.m i r o)) := fun a ρ w hI => ⟨h a ρ w hI, h2 a ρ w hI⟩
theorem XK {l : List Oper} {i : Nat} {r o : Oq} (h : Ops X l.toArray (.cons (nth l i) .any .nil) L B (wpQ X.P l K r)) (h2 : Fin X L B (wpQ X.P l K o)) : Fin X L B (wpQ X.P l K (.a i r o)) := fun a ρ w hI => ⟨h a ρ w hI, h2 a ρ w hI⟩
variable {ops : Array Oper} {r : Pl} {k : Kd} {x y z : Operand} {d : Nat} {t t2 t' : TypeId} {pos : String} {af : Array Edge} {g : Option (Nat × Bool)}
end Go.Own
namespace Go.Proofs.YtdhmbgogmoaofaaGreat
open Go.Own Go.Limbs
attribute [local irreducible] St Ops Go.Own.Fin Ok
set_option maxHeartbeats 2000000 in
theorem Int_ok (n : Nat) (hn : n ≤ 4611686018427387904) : Ok Tryz.prog 164 [natC n] (.fr (tupT [intC n, intC 0])) := by
  have hl : (limbs n).length ≤ 3 := Qf (k := 3) (by omega)
  refine Ok.enter Tryz.func164 J _ Tryz.ntmps164 J ?_
  intro S w; refine Qy (Qx fun K hK => ?_); refine Qj J J J (Qj J J J (Qv (hK _ _ (Qz (Qy ?_))))); clear hK K; refine Qx (fun K hK => ?_); refine Qj J J J (Qv (hK _ _ (Qz (Qy (Qy ?_))))); clear hK K; refine Qx (fun K hK => ?_); refine Qq J J J (Q3 J J sNat.und (List.length_map ..) J (Qk (isub (by omega) (by omega)) J J J J ?_)); refine Qj J J J (Qv (hK _ _ (Qz (Q4 ?_)))); clear hK K
  refine Qn (α := Nat × Int) (fun s => s.1 ≤ (limbs n).length ∧ 0 ≤ s.2 ∧ s.2 * BB ^ s.1 + pre (limbs n) s.1 = n)
    (fun s => [(0, .ct (natC n)), (4, .ct (intC s.2)), (5, .ct (intC ((s.1 : Int) - 1)))]) (fun _ => []) (fun s => s.1) ((limbs n).length, 0) ⟨Nat.le_refl _, Int.le_refl _, by dsimp only; rw [Zp]; simp⟩ (by exact QJ J ⟨rfl, rfl, rfl, trivial⟩) ?_
  rintro ⟨q, v⟩ ⟨hq, hv, hvq⟩
  dsimp only at hq hv hvq ⊢; refine Qy (Qy (Qx fun K hK => ?_)); refine Qq J J J (Qk igeq J J J J (Qv (hK _ _ (Qz ?_)))); clear hK K; refine Q1 J (fun h => ?_) (fun h => ?_)
  · obtain ⟨i, rfl⟩ : ∃ i, q = i + 1 := ⟨q - 1, by omega⟩
    have e1 : (((i + 1 : Nat) : Int) - 1) = (i : Int) := by omega
    have e2 : (i : Int).toNat = i := Int.toNat_natCast i; have bx := (XQ n).get i; simp only [BB] at bx; rw [XY, Int.pow_succ] at hvq; have hp := (Zn (XQ n) i).1; have hpw : (1 : Int) ≤ BB ^ i := Int.pow_pos (by decide)
    have key : v * 1073741824 + (limbs n).getD i 0 ≤ 4611686018427387904 := by
      have e : (v * 1073741824 + (limbs n).getD i 0) * BB ^ i + pre (limbs n) i = n := by
        rw [← hvq]; simp only [BB]; grind
      have : (v * 1073741824 + (limbs n).getD i 0) * 1 ≤ (v * 1073741824 + (limbs n).getD i 0) * BB ^ i := Int.mul_le_mul_of_nonneg_left hpw (by omega); omega
    rw [e1]; refine Q0 (Qz (Qy (Q4 (Qy (Qy (Qx fun K hK => ?_)))))); refine Qq J J J (Qq J J J (Qq J J J (Qc J J J sNat (by omega) (Xw (by omega) (by omega)) J ?_)))
    refine Ql J J J lInt J ?_
    rw [e2]
    refine Qk (isub (by omega) (by omega)) J J J J ?_
    refine Qk ishr30 J J J J (Qk igtr J J J J (Qv (hK _ _ (Qz ?_)))); clear hK K; refine Q1 J (fun h2 => ?_) (fun h2 => ?_)
    · omega
    clear h2; refine Q0 (Qz (Qx fun K hK => ?_)); refine Qq J J J (Qk (ishl30 (by omega) (by omega)) J J J J ?_); refine Qq J J J (Qq J J J (Qc J J J sNat (by omega) (Xw (by omega) (by omega)) J ?_))
    refine Ql J J J lInt J ?_
    rw [e2]
    refine Qk (ior30 (by omega) (by omega) (by omega) (by omega)) J J J J ?_
    refine Qj J J J (Qv (hK _ _ (Qz ?_))); clear hK K; refine Qx (fun K hK => ?_); refine Qq J J J (Qk (isub (by omega) (by omega)) J J J J ?_); refine Qj J J J (Qv (hK _ _ (Q7 ?_))); clear hK K; refine Qb (i, v * 1073741824 + (limbs n).getD i 0) (by dsimp only; omega) ⟨by dsimp only; omega, by dsimp only; omega, ?_⟩ (by exact QJ J ⟨rfl, rfl, rfl, trivial⟩); dsimp only; rw [← hvq]; simp only [BB]; grind
  · have hq0 : q = 0 := by omega
    subst hq0
    have e : v = n := by rw [Xr] at hvq; simpa using hvq
    refine Qm (Qz (Qy (Qx fun K hK => ?_))); refine Qq J J J (Qj J J J (Qj J J J (Qv (hK _ _ (Qz (QU ?_)))))); clear hK K; refine QY [_, _] rfl (Qu J (Qu J QQ)) (by rw [e]; rfl) J
theorem goInt : InGo Tryz.prog 164 := InGo.of Tryz.func164 (by kernel_rfl) (by kernel_rfl)
def rnd (a b : Nat) (up : Bool) : Nat := if up = true ∧ a % b ≠ 0 then a / b + 1 else a / b
set_option maxHeartbeats 2000000 in
theorem round_ok (f : Fr) (up : Bool) (h1 : Sz f.num) (h2 : 0 < f.den) (h3 : f.den < 1073741824) : Ok Tryz.prog 163 [fracC f, boolC up] (.fr (tupT [natC (rnd f.num f.den up), intC 0])) := by
  unfold Sz at h1
  refine Ok.enter Tryz.func163 J _ Tryz.ntmps163 J ?_
  intro S w; refine Qy (Qx fun K hK => ?_); refine Qh 0 J J J J J J J (Qj J J J (Qj J J J (Qv (hK _ _ (Qz (Qy ?_)))))); clear hK K; refine Qx (fun K hK => ?_); refine QW J J J fF1 J (QK J J J J J lNat J (QW J J J fF2 J (QK J J J J J lNat J (QX goDivMod (DivMod_small f.num f.den h2 h3 (by omega)) J J J J ?_)))); refine Qq J J J (QZ J J J J (QZ J J J J (QZ J J J J (Qj J J J (Qj J J J (Qj J J J (Qv (hK _ _ (Qz (Qy (Qy ?_))))))))))); clear hK K; refine Qx (fun K hK => ?_); refine Qq J J J (Qk ieql J J J J (Qq J J J (Qq J J J (Q6 J J J J (Qq J J J (Xe 23 J (fun hu => ?_) (fun hu => ?_)))))))
  · refine Qq J J J (Q3 J J sNat.und (List.length_map ..) J (Qk igtr J J J J (Q6 J J J J (Qv (hK _ _ (Qz ?_)))))); clear hK K; refine Q1 J (fun h => ?_) (fun h => ?_)
    · have hr : f.num % f.den ≠ 0 := limbs_len_pos.mp (by omega); have hl := div_len (b := f.den) h1; refine Qx (fun K hK => ?_); refine Qq J J J (XZ J J sNat J J J (QX goAdd (Add_list (limbs (f.num / f.den)) [1] (by omega) (by simp) (XQ _) (OKL.cons (by decide) OKL.nil)) J J J J ?_)); rw [X7, show val [1] = 1 by decide, show (((f.num / f.den : Nat) : Int) + 1).toNat = f.num / f.den + 1 by generalize f.num / f.den = z; omega]; refine Qq J J J (QZ J J J J (QZ J J J J (Qj J J J (Qj J J J (Qv (hK _ _ (Qz (Qy ?_)))))))); clear hK K; refine Qx (fun K hK => ?_); refine Qq J J J (Qq J J J (Qj J J J (Qj J J J (Qv (hK _ _ (Qz (QU ?_))))))); clear hK K; refine QY [_, _] rfl (Qu J (Qu J QQ)) (by unfold rnd; rw [if_pos ⟨hu, hr⟩]; rfl) J
    · have hr : ¬ (f.num % f.den ≠ 0) := fun h' => h (by have := limbs_len_pos.mpr h'; omega)
      refine Q0 (Qz (Qy (Qx fun K hK => ?_))); refine Qq J J J (Qq J J J (Qj J J J (Qj J J J (Qv (hK _ _ (Qz (QU ?_))))))); clear hK K; refine QY [_, _] rfl (Qu J (Qu J QQ)) (by unfold rnd; rw [if_neg (fun h' => hr h'.2)]; rfl) J
  · refine Qw J J J (Qw J J J (Qw J J J (Q2 J J J J (Qv (hK _ _ (Qz (Qr J (Q0 (Qz (Qy ?_)))))))))); clear hK K; refine Qx (fun K hK => ?_); refine Qq J J J (Qq J J J (Qj J J J (Qj J J J (Qv (hK _ _ (Qz (QU ?_))))))); clear hK K; refine QY [_, _] rfl (Qu J (Qu J QQ)) (by unfold rnd; rw [if_neg (fun h' => by rw [hu] at h'; cases h'.1)]; rfl) J
theorem goround : InGo Tryz.prog 163 := InGo.of Tryz.func163 (by kernel_rfl) (by kernel_rfl)
set_option maxHeartbeats 2000000 in
theorem Fwhole_ok (f : Fr) (up : Bool) (h1 : f.num < 4611686018427387904) (h2 : 0 < f.den) (h3 : f.den < 1073741824) : Ok Tryz.prog 146 [fracC f, boolC up] (.fr (tupT [intC (sg f.neg (rnd f.num f.den (up != f.neg))), intC 0])) := by
  have hs : Sz f.num := Sz.of (Nat.lt_of_lt_of_le h1 (by decide))
  have hr : rnd f.num f.den (up != f.neg) ≤ 4611686018427387904 := by
    have := Nat.div_le_self f.num f.den
    unfold rnd; split <;> omega
  refine Ok.enter Tryz.func146 J _ Tryz.ntmps146 J ?_
  intro S w; refine Qy (Qx fun K hK => ?_); refine Qh 0 J J J J J J J (Qj J J J (Qj J J J (Qv (hK _ _ (Qz (Qy ?_)))))); clear hK K; refine Qx (fun K hK => ?_); refine Qd (n := 3) J J J J J Qg J (Qq J J J (QW J J J fF0 J (QK J J J J J lBool J (YX J J J uBool J ?_)))); rw [dne]; skip; refine QX goround (round_ok f _ hs h2 h3) J J J J (Qq J J J (QZ J J J J (QZ J J J J (Qj J J J (Qj J J J (Qv (hK _ _ (Qz (Qy (Qy ?_)))))))))); clear hK K; refine Qx (fun K hK => ?_); refine Qq J J J (Qk ineq J J J J (Qv (hK _ _ (Qz (Qr J (Q0 (Qz (Qy ?_)))))))); clear hK K; refine Qx (fun K hK => ?_); refine Qq J J J (QX goInt (Int_ok _ hr) J J J J (Qq J J J (QZ J J J J (QZ J J J J (Qj J J J (Qj J J J (Qv (hK _ _ (Qz (Qy (Qy ?_))))))))))); clear hK K; refine Qx (fun K hK => ?_); refine Qq J J J (Qk ineq J J J J (Qv (hK _ _ (Qz (Qr J (Q0 (Qz (Qy (Qy ?_))))))))); clear hK K; refine Qx (fun K hK => ?_); refine QW J J J fF0 J (QK J J J J J lBool J (Qv (hK _ _ (Qz ?_)))); clear hK K; refine Zz J (fun hn => ?_) (fun hn => ?_)
  · refine Qx (fun K hK => ?_); refine Qq J J J (Ops.ineg J J (by omega) (by omega) J ?_); refine Qj J J J (Qv (hK _ _ (Qz (Qy ?_)))); clear hK K; refine Qx (fun K hK => ?_); refine Qq J J J (Qj J J J (Qj J J J (Qv (hK _ _ (Qz (QU ?_)))))); clear hK K; refine QY [_, _] rfl (Qu J (Qu J QQ)) (by unfold sg; rw [hn]; rfl) J
  · refine Q0 (Qz (Qy (Qx fun K hK => ?_))); refine Qq J J J (Qj J J J (Qj J J J (Qv (hK _ _ (Qz (QU ?_)))))); clear hK K; refine QY [_, _] rfl (Qu J (Qu J QQ)) (by unfold sg; rw [hn]; rfl) J
theorem goFwhole : InGo Tryz.prog 146 := InGo.of Tryz.func146 (by kernel_rfl) (by kernel_rfl)
theorem floor_sg (n : Bool) (a b : Nat) (hb : 0 < b) : sg n (rnd a b n) = sg n a / (b : Int) := by
  unfold sg rnd; cases n
  · simp
  · simp only [if_true, true_and]; have e := Nat.div_add_mod a b; have hm := Nat.mod_lt a hb; split
    · rename_i h
      symm
      rw [Int.ediv_eq_iff_of_pos (by omega)]; constructor
      · have : ((b * (a / b) + a % b : Nat) : Int) = a := by rw [e]
        rw [Int.natCast_add, Int.natCast_mul] at this; rw [Int.natCast_add]; generalize ((a / b : Nat) : Int) = z at *; have : (b : Int) * z + ((a % b : Nat) : Int) = a := this
        grind
      · have : ((b * (a / b) + a % b : Nat) : Int) = a := by rw [e]
        rw [Int.natCast_add, Int.natCast_mul] at this; rw [Int.natCast_add]; generalize ((a / b : Nat) : Int) = z at *
        grind
    · rename_i h
      have h0 : a % b = 0 := by omega
      rw [Int.neg_ediv_of_dvd (Int.natCast_dvd_natCast.mpr (Nat.dvd_of_mod_eq_zero h0)), Int.natCast_ediv]
theorem FFloor_ok (f : Fr) (h1 : f.num < 4611686018427387904) (h2 : 0 < f.den) (h3 : f.den < 1073741824) : Ok Tryz.prog 102 [fracC f] (.fr (tupT [intC (sg f.neg f.num / (f.den : Int)), intC 0])) := by
  have h := Fwhole_ok f false h1 h2 h3; rw [Bool.false_bne, floor_sg _ _ _ h2] at h
  refine Ok.enter Tryz.func102 J _ Tryz.ntmps102 J ?_
  intro S w; refine Qy (Qx fun K hK => ?_); refine Qh 0 J J J J J J J (Qj J J J (Qj J J J (Qv (hK _ _ (Qz (Qy ?_)))))); clear hK K; refine Qx (fun K hK => ?_); refine Qd (n := 3) J J J J J Qg J (QX goFwhole h J J J J (QZ J J J J (QZ J J J J (Qj J J J (Qj J J J (Qv (hK _ _ (Qz (QU ?_))))))))); clear hK K; refine QY [_, _] rfl (Qu J (Qu J QQ)) J J
theorem goFFloor : InGo Tryz.prog 102 := InGo.of Tryz.func102 (by kernel_rfl) (by kernel_rfl)
def fr0 : Fr := ⟨false, 0, 1⟩
structure Rw where
  cs : List Int
  b : Int
def rw0 : Rw := ⟨[], 0⟩
abbrev rwCs (r : Rw) : List CT := [intsC r.cs, intC r.b]
abbrev rowC (r : Rw) : CT := .fr (aggT (rwCs r))
abbrev rowsC (rs : List Rw) : CT := .fr (sliceT 2 (rs.map rwCs))
theorem map_at {α : Type} (f : α → List CT) (z : α) {xs : List α} {j : Int} (h0 : 0 ≤ j) (h : j < (xs.length : Int)) : (xs.map f)[j.toNat]? = some (f (xs.getD j.toNat z)) := by
  have : j.toNat < xs.length := by omega
  simp [List.getElem?_map, List.getElem?_eq_getElem this, List.getD_eq_getElem?_getD]
theorem fracs_at {fs : List Fr} {j : Int} (h0 : 0 ≤ j) (h : j < (fs.length : Int)) : (fs.map frCs)[j.toNat]? = some (frCs (fs.getD j.toNat fr0)) := map_at frCs fr0 h0 h
theorem ZQ {rs : List Rw} {j : Int} (h0 : 0 ≤ j) (h : j < (rs.length : Int)) : (rs.map rwCs)[j.toNat]? = some (rwCs (rs.getD j.toNat rw0)) := map_at rwCs rw0 h0 h
def tw (m : Int) : Rat := mkRat m 12
def tf (m : Int) : Fr := ofQ (tw m)
abbrev twC (m : Int) : CT := fracC (tf m)
abbrev twsC (ms : List Int) : CT := .fr (sliceT 3 (ms.map fun m => frCs (tf m)))
theorem twsC_eq (ms : List Int) : twsC ms = fracsC (ms.map tf) := by show CT.fr (sliceT 3 _) = CT.fr (sliceT 3 _); rw [List.map_map]; rfl
theorem tws_at {ms : List Int} {j : Int} (h0 : 0 ≤ j) (h : j < (ms.length : Int)) : (ms.map fun m => frCs (tf m))[j.toNat]? = some (frCs (tf (ms.getD j.toNat 0))) := map_at (fun m => frCs (tf m)) 0 h0 h
theorem tf_red (m : Int) : tf m = redF (decide (m < 0)) m.natAbs 12 := by
  unfold tf tw; rw [redF_q _ _ _ (by decide), sg_natAbs]
theorem tf_gcd (m : Int) : ∃ g : Nat, 0 < g ∧ m.natAbs = (tf m).num * g ∧ 12 = (tf m).den * g := by
  rw [tf_red]; refine ⟨Nat.gcd m.natAbs 12, Nat.gcd_pos_of_pos_right _ (by decide), ?_, ?_⟩
  · exact (Nat.div_mul_cancel (Nat.gcd_dvd_left _ _)).symm
  · exact (Nat.div_mul_cancel (Nat.gcd_dvd_right _ _)).symm
theorem tf_num_le (m : Int) : (tf m).num ≤ m.natAbs := by rw [tf_red]; exact Nat.div_le_self _ _
theorem tf_den (m : Int) : 0 < (tf m).den ∧ (tf m).den ≤ 12 := by rw [tf_red]; exact Y2 _ _ _ (by decide)
theorem tf_num_zero (m : Int) : (tf m).num = 0 ↔ m = 0 := by
  obtain ⟨g, h1, h2, _⟩ := tf_gcd m; constructor
  · intro h; rw [h] at h2; omega
  · intro h; have := tf_num_le m; omega
theorem tf_neg (m : Int) : (tf m).neg = decide (m < 0) := by
  have h : (tf m).neg = (decide (m < 0) && decide ((tf m).num ≠ 0)) := by rw [tf_red]; rfl
  have h2 := tf_num_zero m; rw [h]; by_cases hm : m < 0
  · have : (tf m).num ≠ 0 := fun h' => by have := h2.mp h'; omega
    simp [hm, this]
  · simp [hm]
theorem tf_sg (m : Int) : ∃ g : Nat, 0 < g ∧ m = sg (tf m).neg (tf m).num * g ∧ 12 = (tf m).den * g := by
  obtain ⟨g, h1, h2, h3⟩ := tf_gcd m; refine ⟨g, h1, ?_, h3⟩; rw [← Y4, ← h2, tf_neg, sg_natAbs]
theorem tw_add (a b : Int) : tw a + tw b = tw (a + b) := by
  unfold tw; rw [Rat.mkRat_add_mkRat _ _ (by decide) (by decide), show a * ((12 : Nat) : Int) + b * ((12 : Nat) : Int) = (a + b) * ((12 : Nat) : Int) by omega, Rat.mkRat_mul_right (by decide)]
theorem tw_mul (c m : Int) : tw (12 * c) * tw m = tw (c * m) := by
  unfold tw; rw [Rat.mkRat_mul_mkRat, show 12 * c * m = c * m * ((12 : Nat) : Int) by grind, Rat.mkRat_mul_right (by decide)]
theorem tw_one (n : Int) : Rat.divInt n 1 = tw (12 * n) := by
  unfold tw; show mkRat n 1 = _; rw [show 12 * n = n * ((12 : Nat) : Int) by omega, ← Rat.mkRat_mul_right (a := 12) (by decide)]
theorem tw_div (n : Int) (d e : Nat) (h : d * e = 12) : mkRat n d = tw (n * e) := by
  unfold tw; rw [← h, Rat.mkRat_mul_right (by intro h0; subst h0; simp at h)]
def Tb (m : Int) : Prop := m.natAbs < 1180591620717411303424
theorem Tb.sz {m : Int} (h : Tb m) : Sz (tf m).num := Sz.of (Nat.lt_of_le_of_lt (tf_num_le m) (Nat.lt_trans h (by decide)))
theorem tf_szd (m : Int) : Sz (tf m).den := Sz.of (Nat.lt_of_le_of_lt (tf_den m).2 (by decide))
theorem tf_dd (a b : Int) : (tf a).den * (tf b).den < 1073741824 := Nat.lt_of_le_of_lt (Nat.mul_le_mul (tf_den a).2 (tf_den b).2) (by decide)
theorem From_tw (n : Int) (h1 : -9223372036854775808 ≤ n) (h2 : n ≤ 9223372036854775807) : Ok Tryz.prog 58 [intC n, intC 1] (.fr (tupT [twC (12 * n), intC 0])) := by
  have h := FFrom_ok n 1 h1 h2 (by decide) (by decide) (by decide); rw [tw_one] at h; exact h
theorem Add_tw (a b : Int) (ha : Tb a) (hb : Tb b) : Ok Tryz.prog 60 [twC a, twC b] (.fr (tupT [twC (a + b), intC 0])) := by
  have h := FAdd_fr (tf a) (tf b) ha.sz hb.sz (tf_den a).1 (tf_den b).1 (tf_dd a b); unfold tf at h; rw [add_redF, tw_add] at h; exact h
theorem Mul_tw (c m : Int) (hc : Tb (12 * c)) (hm : Tb m) : Ok Tryz.prog 59 [twC (12 * c), twC m] (.fr (tupT [twC (c * m), intC 0])) := by
  have h := FMul_fr (tf (12 * c)) (tf m) hc.sz hm.sz (tf_den _).1 (tf_den m).1 (tf_dd _ m); unfold tf at h; rw [mul_redF, tw_mul] at h; exact h
theorem cmp_tf (a b : Int) : (if sumN (tf a).neg ((tf a).num * (tf b).den) (!(tf b).neg) ((tf b).num * (tf a).den) = 0 then (0 : Int) else if sumS (tf a).neg ((tf a).num * (tf b).den) (!(tf b).neg) ((tf b).num * (tf a).den) then -1 else 1) = cmpI a b := by
  have hs := sum_sg (tf a).neg ((tf a).num * (tf b).den) (!(tf b).neg) ((tf b).num * (tf a).den); obtain ⟨g, hg, ea, ed⟩ := tf_sg a; obtain ⟨g', hg', eb, ed'⟩ := tf_sg b
  have hn : sg (!(tf b).neg) ((tf b).num * (tf a).den) = - sg (tf b).neg ((tf b).num * (tf a).den) := by
    unfold sg; cases (tf b).neg <;> simp
  rw [hn, Y4, Y4] at hs; generalize sumN (tf a).neg ((tf a).num * (tf b).den) (!(tf b).neg) ((tf b).num * (tf a).den) = N at *; generalize sumS (tf a).neg ((tf a).num * (tf b).den) (!(tf b).neg) ((tf b).num * (tf a).den) = s at *; generalize sg (tf a).neg (tf a).num = p at *; generalize sg (tf b).neg (tf b).num = q at *
  have ed1 : (12 : Int) = (tf a).den * g := by exact_mod_cast ed
  have ed2 : (12 : Int) = (tf b).den * g' := by exact_mod_cast ed'
  generalize ((tf a).den : Int) = x at *; generalize ((tf b).den : Int) = y at *
  have key : sg s N * ((g : Int) * g') = 12 * (a - b) := by rw [hs, ea, eb]; grind
  have hgg : (0 : Int) < (g : Int) * g' := Int.mul_pos (by omega) (by omega); generalize (g : Int) * g' = z at *; unfold cmpI; by_cases hN : N = 0
  · rw [if_pos hN]
    have : sg s N = 0 := by rw [hN]; unfold sg; split <;> rfl
    rw [this] at key
    have : a = b := by omega
    rw [if_neg (by omega), if_neg (by omega)]
  · rw [if_neg hN]; cases hs' : s
    · have h2 : sg s N = N := by unfold sg; rw [hs']; rfl
      have : 0 < sg s N * z := Int.mul_pos (by omega) hgg; rw [if_neg (by decide), if_neg (by omega), if_pos (by omega)]
    · have h2 : sg s N = -N := by unfold sg; rw [hs']; rfl
      have : 0 < (-sg s N) * z := Int.mul_pos (by omega) hgg; rw [Int.neg_mul] at this; rw [if_pos J, if_pos (by omega)]
theorem Compare_tw (a b : Int) (ha : Tb a) (hb : Tb b) : Ok Tryz.prog 65 [twC a, twC b] (.fr (tupT [intC (cmpI a b), intC 0])) := by
  have h := FCompare_fr (tf a) (tf b) ha.sz (tf_szd a) hb.sz (tf_szd b); rw [cmp_tf] at h; exact h
theorem Floor_tw (m : Int) (hm : m.natAbs < 4611686018427387904) : Ok Tryz.prog 102 [twC m] (.fr (tupT [intC (m / 12), intC 0])) := by
  have h := FFloor_ok (tf m) (Nat.lt_of_le_of_lt (tf_num_le m) hm) (tf_den m).1 (Nat.lt_of_le_of_lt (tf_den m).2 (by decide))
  have e : sg (tf m).neg (tf m).num / ((tf m).den : Int) = m / 12 := by
    obtain ⟨g, hg, ea, ed⟩ := tf_sg m
    have ed1 : (12 : Int) = (tf m).den * g := by exact_mod_cast ed
    conv => rhs; rw [ea, ed1]
    rw [Int.mul_ediv_mul_of_pos_left _ _ (by omega)]
  rw [e] at h; exact h
theorem Valid_tw (m : Int) (hm : Tb m) : Ok Tryz.prog 64 [twC m] (boolC true) := by
  have h1 : (limbs (tf m).num).length ≤ 30 := hm.sz; have h2 : (limbs (tf m).den).length ≤ 30 := tf_szd m; have h := Zl (tf m).neg (limbs (tf m).num) (limbs (tf m).den) (by omega) (by omega)
  have hv : fvalidL (tf m).neg (limbs (tf m).num) (limbs (tf m).den) = true := by
    unfold fvalidL; rw [YY (by omega), YY (by omega), tf_neg]; have h3 := limbs_len_pos (n := (tf m).den); have h4 := limbs_len_pos (n := (tf m).num); have h5 := tf_num_zero m; have h6 := (tf_den m).1; rw [show decide ((limbs (tf m).num).length ≤ 64) = true by simp; omega, show decide ((limbs (tf m).den).length ≤ 64) = true by simp; omega, show decide (0 < (limbs (tf m).den).length) = true by simp only [decide_eq_true_eq]; omega]; by_cases hm0 : m < 0
    · rw [show decide ((limbs (tf m).num).length = 0) = false by simp only [decide_eq_false_iff_not]; omega]; simp
    · rw [show decide (m < 0) = false by simp; omega]; rfl
  rw [hv] at h; exact h
def idxI {α : Type} (p : α → Bool) (xs : List α) : Int := if xs.any p then (xs.findIdx p : Nat) else -1
theorem idxI_hit {α : Type} {p : α → Bool} {xs : List α} {z : α} {i : Nat} (h : i < xs.length) (hp : p (xs.getD i z) = true) (hn : ∀ j, j < i → p (xs.getD j z) = false) : idxI p xs = i := by
  have e : ∀ j (hj : j < xs.length), xs.getD j z = xs[j] := fun j hj => by simp [List.getD_eq_getElem?_getD, List.getElem?_eq_getElem hj]
  unfold idxI; rw [if_pos (List.any_eq_true.mpr ⟨xs[i], List.getElem_mem h, by rw [← e i h]; exact hp⟩)]
  congr 1
  rw [List.findIdx_eq h]; exact ⟨by rw [← e i h]; exact hp, fun j hj => by rw [← e j (by omega)]; exact hn j hj⟩
theorem idxI_miss {α : Type} {p : α → Bool} {xs : List α} {z : α} (hn : ∀ j, j < xs.length → p (xs.getD j z) = false) : idxI p xs = -1 := by
  have e : ∀ j (hj : j < xs.length), xs.getD j z = xs[j] := fun j hj => by simp [List.getD_eq_getElem?_getD, List.getElem?_eq_getElem hj]
  unfold idxI; rw [if_neg]; rw [Bool.not_eq_true, List.any_eq_false]; intro x hx; obtain ⟨j, hj, rfl⟩ := List.getElem_of_mem hx; rw [← e j hj, hn j hj]; decide
theorem idxI_any {α : Type} (p : α → Bool) (xs : List α) : decide (0 ≤ idxI p xs) = xs.any p := by
  unfold idxI; split
  · rename_i h; rw [h]; simp
  · rename_i h; simp at h; rw [show decide ((0 : Int) ≤ -1) = false by decide]; symm; rw [List.any_eq_false]; simpa using h
theorem Xj {α : Type} {xs : List α} {z : α} {i : Nat} (h : i < xs.length) : xs.getD i z ∈ xs := by
  simp [List.getD_eq_getElem?_getD, List.getElem?_eq_getElem h]
set_option maxHeartbeats 2000000 in
theorem IndexFunc_ints (xs : List Int) (f : FuncId) (p : Int → Bool) (hgo : InGo Tryz.prog f) (hf : ∀ x ∈ xs, Ok Tryz.prog f [intC x] (boolC (p x))) (hl : xs.length < 4611686018427387904) : Ok Tryz.prog 148 [intsC xs, (.ex (.func (.func f) #[] #[]))] (intC (idxI p xs)) := by
  refine Ok.enter Tryz.func148 J _ Tryz.ntmps148 J ?_
  intro S w; refine Qy (Qx fun K hK => ?_); refine Qj J J J (Qv (hK _ _ (Qz (Qy (Qy ?_))))); clear hK K; refine Qx (fun K hK => ?_); refine Qq J J J (Q3 J J sInts.und (List.length_map ..) J (Qq J J J (Qv (hK _ _ (Qz (Q4 ?_)))))); clear hK K
  refine Qn (α := Nat) (fun i => i ≤ xs.length ∧ ∀ j, j < i → p (xs.getD j 0) = false)
    (fun i => [(0, .ct (intsC xs)), (1, .ct (.ex (.func (.func f) #[] #[]))), (7, .ct (intC xs.length)), (8, .ct (intC i))]) (fun _ => []) (fun i => xs.length - i) 0 ⟨Nat.zero_le _, fun j h => absurd h (Nat.not_lt_zero j)⟩ (by exact QJ J ⟨rfl, rfl, rfl, rfl, trivial⟩) ?_
  intro i ⟨hi, hv⟩; dsimp only; refine Qy (Qx fun K hK => ?_); refine Qk ilss J J J J (Qv (hK _ _ (Qz (Qy ?_)))); clear hK K; refine Q1 J (fun h => ?_) (fun h => ?_)
  · have e2 : (i : Int).toNat = i := Int.toNat_natCast i; refine Q0 (Qz (Qy (Q4 (Qy (Qx fun K hK => ?_))))); refine Qq J J J (Qj J J J (Qv (hK _ _ (Qz (Qy ?_))))); clear hK K; refine Qx (fun K hK => ?_); refine Qq J J J (Qq J J J (Qq J J J (Qc J J J sInts (by omega) (Xw (by omega) (by omega)) J ?_)))
    refine Ql J J J lInt J ?_
    rw [e2]; skip
    refine Ops.callF hgo J (hf _ (Xj (by omega))) J J J J ?_
    refine Qv (hK _ _ (Qz ?_)); clear hK K; refine Zz J (fun h2 => ?_) (fun h2 => ?_)
    · refine Qy (Qx fun K hK => ?_); refine Qq J J J (Qj J J J (Qv (hK _ _ (Qz (QU (Q5 (QV (QV (Q5 (QV ?_)))))))))); clear hK K; refine QY [_] rfl (Qu J QQ) (by rw [idxI_hit (by omega) h2 hv]; rfl) J
    · refine Q0 (Qz (Qx fun K hK => ?_))
      refine Qk (iadd (by omega) (by omega)) J J J J ?_
      refine Qq J J J (Qv (hK _ _ (Q7 ?_))); clear hK K; refine Qb (i + 1) (by omega) ⟨by omega, ?_⟩ (by exact QJ J ⟨rfl, rfl, rfl, by simp only [Int.natCast_add]; rfl, trivial⟩); intro j hj; rcases Nat.lt_or_ge j i with h3 | h3
      · exact hv j h3
      · have : j = i := by omega
        rw [this]; exact h2
  · have hi' : i = xs.length := by omega
    refine Qm (Qz (Qy (Qx fun K hK => ?_))); refine Qj J J J (Qv (hK _ _ (Qz (QU ?_)))); clear hK K; refine QY [_] rfl (Qu J QQ) (by rw [idxI_miss (fun j hj => hv j (by omega))]; rfl) J
theorem goIndexFunc_ints : InGo Tryz.prog 148 := InGo.of Tryz.func148 (by kernel_rfl) (by kernel_rfl)
theorem Yd (xs : List Int) (f : FuncId) (p : Int → Bool) (hgo : InGo Tryz.prog f) (hf : ∀ x ∈ xs, Ok Tryz.prog f [intC x] (boolC (p x))) (hl : xs.length < 4611686018427387904) : Ok Tryz.prog 106 [intsC xs, (.ex (.func (.func f) #[] #[]))] (boolC (xs.any p)) := by
  refine Ok.enter Tryz.func106 J _ Tryz.ntmps106 J ?_
  intro S w; refine Qy (Qx fun K hK => ?_); refine Qj J J J (Qv (hK _ _ (Qz (Qy ?_)))); clear hK K; refine Qx (fun K hK => ?_); refine Qq J J J (Qq J J J (QX goIndexFunc_ints (IndexFunc_ints xs f p hgo hf hl) J J J J (Qk igeq J J J J (Qj J J J (Qv (hK _ _ (Qz (QU ?_)))))))); clear hK K; refine QY [_] rfl (Qu J QQ) (by rw [← idxI_any]; rfl) J
theorem goContainsFunc_ints : InGo Tryz.prog 106 := InGo.of Tryz.func106 (by kernel_rfl) (by kernel_rfl)
set_option maxHeartbeats 2000000 in
theorem IndexFunc_fracs (xs : List Fr) (f : FuncId) (p : Fr → Bool) (hgo : InGo Tryz.prog f) (hf : ∀ x ∈ xs, Ok Tryz.prog f [fracC x] (boolC (p x))) (hl : xs.length < 4611686018427387904) : Ok Tryz.prog 118 [fracsC xs, (.ex (.func (.func f) #[] #[]))] (intC (idxI p xs)) := by
  refine Ok.enter Tryz.func118 J _ Tryz.ntmps118 J ?_
  intro S w; refine Qy (Qx fun K hK => ?_); refine Qj J J J (Qv (hK _ _ (Qz (Qy (Qy ?_))))); clear hK K; refine Qx (fun K hK => ?_); refine Qq J J J (Q3 J J sFracs.und (List.length_map ..) J (Qq J J J (Qv (hK _ _ (Qz (Q4 ?_)))))); clear hK K
  refine Qn (α := Nat) (fun i => i ≤ xs.length ∧ ∀ j, j < i → p (xs.getD j fr0) = false)
    (fun i => [(0, .ct (fracsC xs)), (1, .ct (.ex (.func (.func f) #[] #[]))), (7, .ct (intC xs.length)), (8, .ct (intC i))]) (fun _ => []) (fun i => xs.length - i) 0 ⟨Nat.zero_le _, fun j h => absurd h (Nat.not_lt_zero j)⟩ (by exact QJ J ⟨rfl, rfl, rfl, rfl, trivial⟩) ?_
  intro i ⟨hi, hv⟩; dsimp only; refine Qy (Qx fun K hK => ?_); refine Qk ilss J J J J (Qv (hK _ _ (Qz (Qy ?_)))); clear hK K; refine Q1 J (fun h => ?_) (fun h => ?_)
  · have e2 : (i : Int).toNat = i := Int.toNat_natCast i; refine Q0 (Qz (Qy (Q4 (Qy (Qx fun K hK => ?_))))); refine Qq J J J (Qj J J J (Qv (hK _ _ (Qz (Qy ?_))))); clear hK K; refine Qx (fun K hK => ?_); refine Qq J J J (Qq J J J (Qq J J J (Qc J J J sFracs (by omega) (fracs_at (by omega) (by omega)) J ?_)))
    refine Xk (n := 3) J J J Qg J J ?_
    rw [e2]; skip
    refine Ops.callF hgo J (hf _ (Xj (by omega))) J J J J ?_
    refine Qv (hK _ _ (Qz ?_)); clear hK K; refine Zz J (fun h2 => ?_) (fun h2 => ?_)
    · refine Qy (Qx fun K hK => ?_); refine Qq J J J (Qj J J J (Qv (hK _ _ (Qz (QU (Q5 (QV (QV (Q5 (QV ?_)))))))))); clear hK K; refine QY [_] rfl (Qu J QQ) (by rw [idxI_hit (by omega) h2 hv]; rfl) J
    · refine Q0 (Qz (Qx fun K hK => ?_))
      refine Qk (iadd (by omega) (by omega)) J J J J ?_
      refine Qq J J J (Qv (hK _ _ (Q7 ?_))); clear hK K; refine Qb (i + 1) (by omega) ⟨by omega, ?_⟩ (by exact QJ J ⟨rfl, rfl, rfl, by simp only [Int.natCast_add]; rfl, trivial⟩); intro j hj; rcases Nat.lt_or_ge j i with h3 | h3
      · exact hv j h3
      · have : j = i := by omega
        rw [this]; exact h2
  · have hi' : i = xs.length := by omega
    refine Qm (Qz (Qy (Qx fun K hK => ?_))); refine Qj J J J (Qv (hK _ _ (Qz (QU ?_)))); clear hK K; refine QY [_] rfl (Qu J QQ) (by rw [idxI_miss (fun j hj => hv j (by omega))]; rfl) J
theorem goIndexFunc_fracs : InGo Tryz.prog 118 := InGo.of Tryz.func118 (by kernel_rfl) (by kernel_rfl)
theorem Zo (xs : List Fr) (f : FuncId) (p : Fr → Bool) (hgo : InGo Tryz.prog f) (hf : ∀ x ∈ xs, Ok Tryz.prog f [fracC x] (boolC (p x))) (hl : xs.length < 4611686018427387904) : Ok Tryz.prog 62 [fracsC xs, (.ex (.func (.func f) #[] #[]))] (boolC (xs.any p)) := by
  refine Ok.enter Tryz.func62 J _ Tryz.ntmps62 J ?_
  intro S w; refine Qy (Qx fun K hK => ?_); refine Qj J J J (Qv (hK _ _ (Qz (Qy ?_)))); clear hK K; refine Qx (fun K hK => ?_); refine Qq J J J (Qq J J J (QX goIndexFunc_fracs (IndexFunc_fracs xs f p hgo hf hl) J J J J (Qk igeq J J J J (Qj J J J (Qv (hK _ _ (Qz (QU ?_)))))))); clear hK K; refine QY [_] rfl (Qu J QQ) (by rw [← idxI_any]; rfl) J
theorem Xg : InGo Tryz.prog 62 := InGo.of Tryz.func62 (by kernel_rfl) (by kernel_rfl)
set_option maxHeartbeats 2000000 in
theorem IndexFunc_rows (xs : List Rw) (f : FuncId) (caps : List CT) (p : Rw → Bool) (hgo : InGo Tryz.prog f) (hf : ∀ x ∈ xs, Ok Tryz.prog f ([rowC x] ++ caps) (boolC (p x))) (hl : xs.length < 4611686018427387904) : Ok Tryz.prog 139 [rowsC xs, (.fr (closT f caps))] (intC (idxI p xs)) := by
  refine Ok.enter Tryz.func139 J _ Tryz.ntmps139 J ?_
  intro S w; refine Qy (Qx fun K hK => ?_); refine Qj J J J (Qv (hK _ _ (Qz (Qy (Qy ?_))))); clear hK K; refine Qx (fun K hK => ?_); refine Qq J J J (Q3 J J sRows.und (List.length_map ..) J (Qq J J J (Qv (hK _ _ (Qz (Q4 ?_)))))); clear hK K
  refine Qn (α := Nat) (fun i => i ≤ xs.length ∧ ∀ j, j < i → p (xs.getD j rw0) = false)
    (fun i => [(0, .ct (rowsC xs)), (1, .ct (.fr (closT f caps))), (7, .ct (intC xs.length)), (8, .ct (intC i))]) (fun _ => []) (fun i => xs.length - i) 0 ⟨Nat.zero_le _, fun j h => absurd h (Nat.not_lt_zero j)⟩ (by exact QJ J ⟨rfl, rfl, rfl, rfl, trivial⟩) ?_
  intro i ⟨hi, hv⟩; dsimp only; refine Qy (Qx fun K hK => ?_); refine Qk ilss J J J J (Qv (hK _ _ (Qz (Qy ?_)))); clear hK K; refine Q1 J (fun h => ?_) (fun h => ?_)
  · have e2 : (i : Int).toNat = i := Int.toNat_natCast i; refine Q0 (Qz (Qy (Q4 (Qy (Qx fun K hK => ?_))))); refine Qq J J J (Qj J J J (Qv (hK _ _ (Qz (Qy ?_))))); clear hK K; refine Qx (fun K hK => ?_); refine Qq J J J (Qq J J J (Qq J J J (Qc J J J sRows (by omega) (ZQ (by omega) (by omega)) J ?_)))
    refine Xk (n := 2) J J J lRow J J ?_
    rw [e2]; skip
    refine Ops.callC hgo J (hf _ (Xj (by omega))) J J J J ?_
    refine Qv (hK _ _ (Qz ?_)); clear hK K; refine Zz J (fun h2 => ?_) (fun h2 => ?_)
    · refine Qy (Qx fun K hK => ?_); refine Qq J J J (Qj J J J (Qv (hK _ _ (Qz (QU (Q5 (QV (QV (Q5 (QV ?_)))))))))); clear hK K; refine QY [_] rfl (Qu J QQ) (by rw [idxI_hit (by omega) h2 hv]; rfl) J
    · refine Q0 (Qz (Qx fun K hK => ?_))
      refine Qk (iadd (by omega) (by omega)) J J J J ?_
      refine Qq J J J (Qv (hK _ _ (Q7 ?_))); clear hK K; refine Qb (i + 1) (by omega) ⟨by omega, ?_⟩ (by exact QJ J ⟨rfl, rfl, rfl, by simp only [Int.natCast_add]; rfl, trivial⟩); intro j hj; rcases Nat.lt_or_ge j i with h3 | h3
      · exact hv j h3
      · have : j = i := by omega
        rw [this]; exact h2
  · have hi' : i = xs.length := by omega
    refine Qm (Qz (Qy (Qx fun K hK => ?_))); refine Qj J J J (Qv (hK _ _ (Qz (QU ?_)))); clear hK K; refine QY [_] rfl (Qu J QQ) (by rw [idxI_miss (fun j hj => hv j (by omega))]; rfl) J
theorem goIndexFunc_rows : InGo Tryz.prog 139 := InGo.of Tryz.func139 (by kernel_rfl) (by kernel_rfl)
theorem ContainsFunc_rows (xs : List Rw) (f : FuncId) (caps : List CT) (p : Rw → Bool) (hgo : InGo Tryz.prog f) (hf : ∀ x ∈ xs, Ok Tryz.prog f ([rowC x] ++ caps) (boolC (p x))) (hl : xs.length < 4611686018427387904) : Ok Tryz.prog 89 [rowsC xs, (.fr (closT f caps))] (boolC (xs.any p)) := by
  refine Ok.enter Tryz.func89 J _ Tryz.ntmps89 J ?_
  intro S w; refine Qy (Qx fun K hK => ?_); refine Qj J J J (Qv (hK _ _ (Qz (Qy ?_)))); clear hK K; refine Qx (fun K hK => ?_); refine Qq J J J (Qq J J J (QX goIndexFunc_rows (IndexFunc_rows xs f caps p hgo hf hl) J J J J (Qk igeq J J J J (Qj J J J (Qv (hK _ _ (Qz (QU ?_)))))))); clear hK K; refine QY [_] rfl (Qu J QQ) (by rw [← idxI_any]; rfl) J
theorem goContainsFunc_rows : InGo Tryz.prog 89 := InGo.of Tryz.func89 (by kernel_rfl) (by kernel_rfl)
def badC (x : Int) : Bool := decide (x < -1048576) || decide (1048576 < x)
theorem validCoeffs1_ok (x : Int) : Ok Tryz.prog 121 [intC x] (boolC (badC x)) := by
  refine Ok.enter Tryz.func121 J _ Tryz.ntmps121 J ?_
  intro S w; refine Qy (Qx fun K hK => ?_); refine Qj J J J (Qv (hK _ _ (Qz (Qy ?_)))); clear hK K; refine Qx (fun K hK => ?_); refine Qq J J J (Qk ilss J J J J (Qq J J J (Qi 5 J (fun h => ?_) (fun h => ?_))))
  · refine Qw J J J (Qw J J J (Q6 J J J J (Qj J J J (Qv (hK _ _ (Qz (QU ?_))))))); clear hK K; refine QY [_] rfl (Qu J QQ) (by unfold badC; rw [decide_eq_true h]; rfl) J
  · refine Qq J J J (Qk igtr J J J J (Q2 J J J J (Qj J J J (Qv (hK _ _ (Qz (QU ?_))))))); clear hK K; refine QY [_] rfl (Qu J QQ) (by unfold badC; rw [decide_eq_false h]; rfl) J
theorem govalidCoeffs1 : InGo Tryz.prog 121 := InGo.of Tryz.func121 (by kernel_rfl) (by kernel_rfl)
def okCoeffs (n : Int) (xs : List Int) : Bool := decide ((xs.length : Int) ≤ n) && !xs.any badC
theorem validCoeffs_ok (n : Int) (xs : List Int) (hl : xs.length < 4611686018427387904) : Ok Tryz.prog 67 [intC n, intsC xs] (boolC (okCoeffs n xs)) := by
  refine Ok.enter Tryz.func67 J _ Tryz.ntmps67 J ?_
  intro S w; refine Qy (Qx fun K hK => ?_); refine Qj J J J (Qv (hK _ _ (Qz (Qy ?_)))); clear hK K; refine Qx (fun K hK => ?_); refine Qq J J J (Q3 J J sInts.und (List.length_map ..) J (Qq J J J (Qk ileq J J J J (Qq J J J (Qi 9 J (fun h => ?_) (fun h => ?_))))))
  · refine Qq J J J (QX goContainsFunc_ints (Yd xs _ badC govalidCoeffs1 (fun x _ => validCoeffs1_ok x) hl) J J J J ?_); refine Qe J J J (Q6 J J J J (Qj J J J (Qv (hK _ _ (Qz (QU ?_)))))); clear hK K; refine QY [_] rfl (Qu J QQ) (by unfold okCoeffs; rw [decide_eq_true h]; rfl) J
  · refine Qw J J J (Qw J J J (Qw J J J (Q2 J J J J (Qj J J J (Qv (hK _ _ (Qz (QU ?_)))))))); clear hK K; refine QY [_] rfl (Qu J QQ) (by unfold okCoeffs; rw [decide_eq_false h]; rfl) J
theorem govalidCoeffs : InGo Tryz.prog 67 := InGo.of Tryz.func67 (by kernel_rfl) (by kernel_rfl)
end Go.Proofs.YtdhmbgogmoaofaaGreat
namespace Go.Own
variable {X : Ctx} {L : AL} {B : BL} {ops : Array Oper} {K : Act → World → Prop} {r : Pl} {k : Kd}
  {x y z : Operand} {d : Nat} {t t2 t' : TypeId} {pos : String} {af : Array Edge} {g : Option (Nat × Bool)}
theorem X9 {l : Pl} (dd i m : Nat) {el n : Nat} {cs : List CT} (hd : look L dd = some (.own i)) (hi : bget B i = some (.row el n cs)) (hl : cs.length = m * n) (hm : 0 < m) (hp : 0 < n)
    (h : ∀ gb c, m ≤ c → c ≤ maxLen → Ops X ops l ((dd, .ct (.ex (.slice (some ⟨gb, 0, none⟩) m c))) :: L) (bset B i (.rowx (.slice (some ⟨gb, 0, none⟩) m c) el n cs)) K) : Ops X ops l L B K := Fin.nameS dd i m hd hi hl hm hp h
end Go.Own
namespace Go.Proofs.YtdhmbgogmoaofaaGreat
open Go.Own Go.Limbs
def rng (a n : Nat) : List Int := (List.range n).map (fun i => ((a + i : Nat) : Int))
theorem X8 (a n : Nat) : (rng a n).length = n := by simp [rng]
theorem Yz (a n : Nat) : rng a (n + 1) = rng a n ++ [((a + n : Nat) : Int)] := by simp [rng, List.range_succ]
theorem Yj (xs ys : List Int) : ints (xs ++ ys) = ints xs ++ ints ys := by simp [ints]
def lnOf (n : Nat) (cs : List Int) (b : Int) : List Int := (List.range n).map (fun j => cs.getD j 0) ++ [b]
def lnP (n : Nat) (cs : List Int) (q : Nat) : List Int := (List.range (n + 1)).map (fun j => if j < q then cs.getD j 0 else 0)
end Go.Proofs.YtdhmbgogmoaofaaGreat
namespace Go.Proofs.YtdhmbgogmoaofaaGreat
open Go.Own Go.Limbs
attribute [local irreducible] St Ops Go.Own.Fin Ok OkM
def IsH (m : Nat) (v : Value) : Prop := (m = 0 ∧ v = .slice none 0 0) ∨ (0 < m ∧ ∃ gb c, m ≤ c ∧ c ≤ maxLen ∧ v = .slice (some ⟨gb, 0, none⟩) m c)
theorem IsH.one {m : Nat} {v : Value} (h : IsH m v) : v.oneCell' = true := by
  rcases h with ⟨_, rfl⟩ | ⟨_, gb, c, _, _, rfl⟩ <;> rfl
def Okc (xs : List Int) : Prop := ∀ x ∈ xs, -1152921504606846976 ≤ x ∧ x ≤ 1152921504606846976
theorem Okc.get {xs : List Int} (h : Okc xs) (i : Nat) : -1152921504606846976 ≤ xs.getD i 0 ∧ xs.getD i 0 ≤ 1152921504606846976 := by
  rw [List.getD_eq_getElem?_getD]
  cases e : xs[i]? with
  | none => decide
  | some x => exact h x (List.mem_of_getElem? e)
structure OkRw (n : Nat) (r : Rw) : Prop where
  len : r.cs.length ≤ n
  cs : Okc r.cs
  b1 : -1152921504606846976 ≤ r.b
  b2 : r.b ≤ 1152921504606846976
structure Bgn (n : Nat) (rs : List Rw) (c : List Int) (T : Tv) : Prop where
  rows : T.rows = (rs.map fun r => lnOf n r.cs r.b) ++ [lnOf n (c.map fun x => -x) 0]
  bas : T.bas = rng n rs.length
  col : T.col = rng 0 n
  den : T.den = 1
  hl : T.hl.length = rs.length + 1
  lines : ∀ h ∈ T.hl, ∃ gb, h = .slice (some ⟨gb, 0, none⟩) (n + 1) (n + 1)
  hR : IsH (rs.length + 1) T.hR
  hB : IsH rs.length T.hB
  hC : IsH n T.hC
abbrev tb0 (hR hB hC : Value) : List CT := [.ex hR, .ex hB, .ex hC, boolC (decide ((1 : Int) < 0)), natC (1 : Int).natAbs]
end Go.Proofs.YtdhmbgogmoaofaaGreat
namespace Go.Own
open Go.RowKit
variable {X : Ctx} {L : AL} {B : BL} {ops : Array Oper} {K : Act → World → Prop} {r : Pl} {k : Kd}
  {x y z : Operand} {d : Nat} {t t2 t' : TypeId} {pos : String} {af : Array Edge} {g : Option (Nat × Bool)}
abbrev kh (gb o m c : Nat) : Value := .slice (some ⟨gb, o, none⟩) m c
end Go.Own
namespace Go.Own
open Go.RowKit
variable {X : Ctx} {L : AL} {B : BL} {ops : Array Oper} {K : Act → World → Prop} {r : Pl} {k : Kd}
  {x y z : Operand} {d : Nat} {t t2 t' : TypeId} {pos : String} {af : Array Edge} {g : Option (Nat × Bool)}
def Sl.ren (a : Nat) : Sl → Sl
  | .own _ => .own a
  | s => s
def notN (a j : Nat) : Bool := !Nat.beq a j
end Go.Own
namespace Go.Own
section
variable {P : Program} {n : Nat} {S : BSet} {w0 : World} {B0 : BL} {fx : List Nat} {ρ0 : Nat → Value} {α : Type} {J : α → Prop} {R : α → Sl} {B1 : α → BL} {L : AL} {B : BL}
end
end Go.Own
namespace Go.Proofs.YtdhmbgogmoaofaaGreat
open Go.Own Go.Limbs
attribute [local irreducible] St Ops Go.Own.Fin Ok OkM
abbrev whsC (zs : List Int) : CT := .fr (sliceT 2 (zs.map whCs))
end Go.Proofs.YtdhmbgogmoaofaaGreat
namespace Go.Own
variable {X : Ctx} {L : AL} {B : BL} {ops : Array Oper} {K : Act → World → Prop} {r : Pl} {k : Kd}
end Go.Own
namespace Go.Proofs.YtdhmbgogmoaofaaGreat
open Go.Own Go.Limbs
attribute [local irreducible] St Ops Go.Own.Fin Ok OkM
end Go.Proofs.YtdhmbgogmoaofaaGreat
namespace Go.Own
variable {X : Ctx} {L : AL} {B : BL} {ops : Array Oper} {K : Act → World → Prop} {r : Pl} {k : Kd}
end Go.Own
namespace Go.Proofs.YtdhmbgogmoaofaaGreat
open Go.Own Go.Limbs
def Tv.wh (T H : Tv) : Tv := { T with hR := H.hR, hB := H.hB, hC := H.hC, hl := H.hl }
theorem levS_wh (T H : Tv) (s : Nat) : ∀ i, levS (T.wh H) s i = levS T s i
  | 0 => rfl
  | i + 1 => by simp only [levS, levS_wh T H s i]; rfl
theorem pvt_bas (T : Tv) (r s : Nat) : (pvt T r s).bas.length = T.bas.length := by simp [pvt]
theorem Z8 (T : Tv) (r s : Nat) : (pvt T r s).col.length = T.col.length := by simp [pvt]
theorem RunOk.lens {gi : Nat} {T' : Tv} {s : Int} : ∀ {k : Nat} {T : Tv}, RunOk gi T' s k T → T'.rows.length = T.rows.length ∧ T'.bas.length = T.bas.length ∧ T'.col.length = T.col.length
  | 0, T, ⟨G, h1, h2⟩ => by subst h1; exact ⟨rfl, rfl, rfl⟩
  | k + 1, T, ⟨G, h1, h2, h3⟩ => by
    have := RunOk.lens h3
    rw [Zk, pvt_bas, Z8] at this
    exact this
def wrS (T : Tv) : Nat → Int
  | 0 => -1
  | i + 1 => if T.at i T.col.length < 0 ∧ (wrS T i < 0 ∨ T.at i T.col.length + -(T.at (wrS T i).toNat T.col.length) < 0) then i else wrS T i
theorem wrS_bd (T : Tv) : ∀ i, -1 ≤ wrS T i ∧ wrS T i < i
  | 0 => by simp [wrS]
  | i + 1 => by
    have := wrS_bd T i
    simp only [wrS]
    split <;> omega
def insX (m k : Nat) : Int := if k < m then -1 else if k = m + 1 then 1 else 0
def insL (m q k : Nat) (l : List Int) : List Int := l.take q ++ insX m k :: l.drop q
theorem insL_len {m q k : Nat} {l : List Int} (h : q ≤ l.length) : (insL m q k l).length = l.length + 1 := by
  unfold insL; rw [List.length_append, List.length_cons, List.length_take, List.length_drop]; omega
def insP (m q : Nat) (rows : List (List Int)) (i : Nat) : List (List Int) := (List.range rows.length).map fun k => if k < i then insL m q k (rows.getD k []) else rows.getD k []
theorem insP_len (m q : Nat) (rows : List (List Int)) (i : Nat) : (insP m q rows i).length = rows.length := by simp [insP]
def insT (T : Tv) (art : Int) : Tv := { T with rows := insP T.bas.length T.col.length (T.rows ++ [List.replicate (T.col.length + 1) 0]) (T.rows.length + 1), col := T.col ++ [art], hl := T.hl ++ [default] }
def fIx (xs : List Int) (v : Int) : Int := idxI (fun x => decide (v = x)) xs
def nzC (E : Tv) (last : Nat) (art : Int) : Int := idxI (fun x => decide (x ≠ 0)) ((E.rows.getD (fIx E.bas art).toNat []).take (last + 1))
def stE2 (E : Tv) (last : Nat) (art : Int) : Tv := if fIx E.bas art < 0 then E else pvt E (fIx E.bas art).toNat (nzC E last art).toNat
def delP (c : Nat) (rows : List (List Int)) (i : Nat) : List (List Int) := (List.range rows.length).map fun k => if k < i then (rows.getD k []).eraseIdx c else rows.getD k []
theorem delP_len (c : Nat) (rows : List (List Int)) (i : Nat) : (delP c rows i).length = rows.length := by simp [delP]
def stE3 (E : Tv) (m last : Nat) (art : Int) : Tv :=
  let E2 := stE2 E last art
  { E2 with rows := delP (fIx E2.col art).toNat (E2.rows.take (m + 1)) (m + 1), col := E2.col.eraseIdx (fIx E2.col art).toNat, hl := E2.hl.take (m + 1) }
structure StartRun (T : Tv) (art : Int) (E : Tv) : Prop where
  worst : 0 ≤ wrS T T.bas.length
  gd : Gd (insT T art)
  run : ∃ s k, RunOk (T.bas.length + 1) E s k (pvt (insT T art) (wrS T T.bas.length).toNat T.col.length)
  piv : ¬ E.at (T.bas.length + 1) (T.col.length + 1) < 0 → 0 ≤ fIx E.bas art → 0 ≤ nzC E T.col.length art
  fit2 : ¬ E.at (T.bas.length + 1) (T.col.length + 1) < 0 → Fit (stE2 E T.col.length art)
  out : ¬ E.at (T.bas.length + 1) (T.col.length + 1) < 0 → 0 ≤ fIx (stE2 E T.col.length art).col art
def stRes (T E : Tv) : Bool := decide (wrS T T.bas.length < 0) || !decide (E.at (T.bas.length + 1) (T.col.length + 1) < 0)
def stOut (T E : Tv) (art : Int) : Tv := if wrS T T.bas.length < 0 then T else if E.at (T.bas.length + 1) (T.col.length + 1) < 0 then E else stE3 E T.bas.length T.col.length art
end Go.Proofs.YtdhmbgogmoaofaaGreat
namespace Go.Own
def seqR : Code → Code
  | .seq _ b => b
  | c => c
def bodyOf (f : Func) : Code := match f.body with
  | some c => c
  | none => .skip
end Go.Own
namespace Go.Proofs.YtdhmbgogmoaofaaGreat
open Go.Own Go.Limbs
attribute [local irreducible] St Ops Go.Own.Fin Ok OkM
end Go.Proofs.YtdhmbgogmoaofaaGreat
namespace Go.Proofs.YtdhmbgogmoaofaaGreat
open Go.Own Go.Limbs
attribute [local irreducible] St Ops Go.Own.Fin Ok OkM
end Go.Proofs.YtdhmbgogmoaofaaGreat
namespace Go.Det
abbrev Vec := Nat → Int
def exps (f : List Vec → Int) (r : Nat) : List Vec → List Vec → Int
  | _, [] => 0
  | p, c :: q => c r * f (p ++ q) - exps f r (p ++ [c]) q
def det : Nat → Nat → List Vec → Int
  | 0, _, _ => 1
  | k + 1, r, cs => exps (det k (r + 1)) r [] cs
def lin (x : Int) (u : Vec) (y : Int) (w : Vec) : Vec := fun i => x * u i + y * w i
def Lin (f : List Vec → Int) : Prop := ∀ (A C : List Vec) (x y : Int) (u w : Vec), f (A ++ lin x u y w :: C) = x * f (A ++ u :: C) + y * f (A ++ w :: C)
theorem exps_lin_pre {f : List Vec → Int} (hf : Lin f) (r : Nat) (x y : Int) (u w : Vec) : ∀ (q P Q : List Vec),
    exps f r (P ++ lin x u y w :: Q) q = x * exps f r (P ++ u :: Q) q + y * exps f r (P ++ w :: Q) q
  | [], _, _ => by simp [exps]
  | c :: q, P, Q => by
    have ih := exps_lin_pre hf r x y u w q P (Q ++ [c])
    have h := hf P (Q ++ q) x y u w
    simp only [exps, List.append_assoc, List.cons_append] at *
    rw [ih, h]; grind
theorem det_lin' : ∀ (k r : Nat) (A C : List Vec) (x y : Int) (u w : Vec), A.length + 1 + C.length = k →
    det k r (A ++ lin x u y w :: C) = x * det k r (A ++ u :: C) + y * det k r (A ++ w :: C) := by
  intro k
  induction k with
  | zero => intro r A C x y u w h; omega
  | succ k ih =>
    intro r A C x y u w h
    have key : ∀ (q P Q : List Vec), P.length + 1 + Q.length + q.length = k + 1 →
        exps (det k (r + 1)) r (P ++ lin x u y w :: Q) q = x * exps (det k (r + 1)) r (P ++ u :: Q) q + y * exps (det k (r + 1)) r (P ++ w :: Q) q := by
      intro q
      induction q with
      | nil => intro P Q _; simp [exps]
      | cons c q ih2 =>
        intro P Q hl; have i2 := ih2 P (Q ++ [c]) (by simp at hl ⊢; omega); have i1 := ih (r + 1) P (Q ++ q) x y u w (by simp at hl ⊢; omega); simp only [exps, List.append_assoc, List.cons_append] at *; rw [i2, i1]; grind
    have key2 : ∀ (A C P : List Vec), P.length + A.length + 1 + C.length = k + 1 →
        exps (det k (r + 1)) r P (A ++ lin x u y w :: C) = x * exps (det k (r + 1)) r P (A ++ u :: C) + y * exps (det k (r + 1)) r P (A ++ w :: C) := by
      intro A
      induction A with
      | nil =>
        intro C P hl; have i2 := key C P [] (by simp at hl ⊢; omega); simp only [exps, List.nil_append] at *; rw [i2]; simp only [lin]; grind
      | cons a A ih2 =>
        intro C P hl; have i2 := ih2 C (P ++ [a]) (by simp at hl ⊢; omega); have i1 := ih (r + 1) (P ++ A) C x y u w (by simp at hl ⊢; omega); simp only [exps, List.append_assoc, List.cons_append] at *; rw [i2, i1]; grind
    exact key2 A C [] (by simp; omega)
theorem det_adj : ∀ (k r : Nat) (A C : List Vec) (u : Vec), A.length + 2 + C.length = k → det k r (A ++ u :: u :: C) = 0 := by
  intro k
  induction k with
  | zero => intro r A C u h; omega
  | succ k ih =>
    intro r A C u h
    have key : ∀ (q P Q : List Vec), P.length + 2 + Q.length + q.length = k + 1 → exps (det k (r + 1)) r (P ++ u :: u :: Q) q = 0 := by
      intro q
      induction q with
      | nil => intro P Q _; rfl
      | cons c q ih2 =>
        intro P Q hl; have i2 := ih2 P (Q ++ [c]) (by simp at hl ⊢; omega); have i1 := ih (r + 1) P (Q ++ q) u (by simp at hl ⊢; omega); simp only [exps, List.append_assoc, List.cons_append] at *; rw [i2, i1]; grind
    have key2 : ∀ (A C P : List Vec), P.length + A.length + 2 + C.length = k + 1 → exps (det k (r + 1)) r P (A ++ u :: u :: C) = 0 := by
      intro A
      induction A with
      | nil =>
        intro C P hl; have i2 := key C P [] (by simp at hl ⊢; omega); simp only [exps, List.nil_append, List.append_assoc, List.cons_append] at *; rw [i2]; grind
      | cons a A ih2 =>
        intro C P hl; have i2 := ih2 C (P ++ [a]) (by simp at hl ⊢; omega); have i1 := ih (r + 1) (P ++ A) C u (by simp at hl ⊢; omega); simp only [exps, List.append_assoc, List.cons_append] at *; rw [i2, i1]; grind
    exact key2 A C [] (by simp; omega)
def dt (cs : List Vec) : Int := det cs.length 0 cs
theorem dt_lin (A C : List Vec) (x y : Int) (u w : Vec) : dt (A ++ lin x u y w :: C) = x * dt (A ++ u :: C) + y * dt (A ++ w :: C) := by
  unfold dt
  have e : ∀ z : Vec, (A ++ z :: C).length = A.length + 1 + C.length := fun z => by simp; omega
  rw [e, e, e]; exact det_lin' _ _ A C x y u w J
theorem dt_adj (A C : List Vec) (u : Vec) : dt (A ++ u :: u :: C) = 0 := by
  unfold dt; exact det_adj _ _ A C u (by simp; omega)
theorem dt_swap1 (A C : List Vec) (u w : Vec) : dt (A ++ u :: w :: C) = - dt (A ++ w :: u :: C) := by
  have h := dt_adj A C (lin 1 u 1 w); rw [dt_lin A] at h; have h1 := dt_lin (A ++ [u]) C 1 1 u w; have h2 := dt_lin (A ++ [w]) C 1 1 u w; simp only [List.append_assoc, List.cons_append, List.nil_append] at h1 h2; rw [h1, h2, dt_adj, dt_adj] at h; omega
theorem dt_eq (u : Vec) : ∀ (M A C : List Vec), dt (A ++ u :: (M ++ u :: C)) = 0
  | [], A, C => dt_adj A C u
  | m :: M, A, C => by
    rw [List.cons_append, dt_swap1]
    have := dt_eq u M (A ++ [m]) C
    simp only [List.append_assoc, List.cons_append, List.nil_append] at this
    rw [this]; rfl
theorem dt_swap (A M C : List Vec) (u w : Vec) : dt (A ++ u :: (M ++ w :: C)) = - dt (A ++ w :: (M ++ u :: C)) := by
  have h := dt_eq (lin 1 u 1 w) M A C; rw [dt_lin A] at h; have h1 := dt_lin (A ++ u :: M) C 1 1 u w; have h2 := dt_lin (A ++ w :: M) C 1 1 u w; simp only [List.append_assoc, List.cons_append, List.nil_append] at h1 h2; rw [h1, h2, dt_eq, dt_eq] at h; omega
def unit (i : Nat) : Vec := fun j => if j = i then 1 else 0
theorem exps_zero (f : List Vec → Int) (r : Nat) : ∀ (q P : List Vec), (∀ c ∈ q, c r = 0) → exps f r P q = 0
  | [], _, _ => rfl
  | c :: q, P, h => by
    simp only [exps]
    rw [h c (List.mem_cons_self ..), exps_zero f r q _ (fun c hc => h c (List.mem_cons_of_mem _ hc))]; simp
theorem det_unit : ∀ (k r : Nat), det k r ((List.range' r k).map unit) = 1
  | 0, _ => rfl
  | k + 1, r => by
    rw [List.range'_succ, List.map_cons, det, exps, exps_zero]
    · rw [List.nil_append, det_unit k (r + 1)]; simp [unit]
    · intro c hc
      obtain ⟨i, hi, rfl⟩ := List.mem_map.1 hc
      rw [List.mem_range'_1] at hi
      simp only [unit]; rw [if_neg (by omega)]
theorem dt_unit (k : Nat) : dt ((List.range k).map unit) = 1 := by
  unfold dt; rw [List.length_map, List.length_range, List.range_eq_range']; exact det_unit k 0
def fact : Nat → Nat
  | 0 => 1
  | n + 1 => (n + 1) * fact n
theorem exps_bd {f : List Vec → Int} {r : Nat} {M F : Nat} : ∀ (q P : List Vec), (∀ c ∈ q, (c r).natAbs ≤ M) → (∀ A B c, q = A ++ c :: B → (f (P ++ A ++ B)).natAbs ≤ F) → (exps f r P q).natAbs ≤ q.length * (M * F)
  | [], _, _, _ => by simp [exps]
  | c :: q, P, h, hf => by
    have i := exps_bd (f := f) (r := r) (M := M) (F := F) q (P ++ [c]) (fun c hc => h c (List.mem_cons_of_mem _ hc)) (fun A B d e => by
      have := hf (c :: A) B d (by rw [e]; rfl)
      simpa using this)
    have h1 := h c (List.mem_cons_self ..)
    have h2 := hf [] q c rfl
    simp only [List.append_nil] at h2
    have h3 : (c r * f (P ++ q)).natAbs ≤ M * F := by rw [Int.natAbs_mul]; exact Nat.mul_le_mul h1 h2
    simp only [exps, List.length_cons, Nat.add_mul, Nat.one_mul]
    omega
theorem det_bd {M : Nat} : ∀ (k r : Nat) (cs : List Vec), cs.length = k → (∀ c ∈ cs, ∀ i, (c i).natAbs ≤ M) → (det k r cs).natAbs ≤ fact k * M ^ k
  | 0, _, _, _, _ => by simp [det, fact]
  | k + 1, r, cs, hl, h => by
    have := exps_bd (f := det k (r + 1)) (r := r) (M := M) (F := fact k * M ^ k) cs [] (fun c hc => h c hc r) (fun A B c e => by
      refine det_bd k (r + 1) _ (by subst e; simp at hl ⊢; omega) (fun d hd i => h d ?_ i)
      subst e
      simp only [List.nil_append, List.mem_append, List.mem_cons] at hd ⊢
      rcases hd with hd | hd
      · exact .inl hd
      · exact .inr (.inr hd))
    rw [hl] at this
    simp only [det, fact, Nat.pow_succ]
    refine Nat.le_trans this (Nat.le_of_eq ?_)
    grind
theorem dt_bd {M : Nat} (cs : List Vec) (h : ∀ c ∈ cs, ∀ i, (c i).natAbs ≤ M) : (dt cs).natAbs ≤ fact cs.length * M ^ cs.length := det_bd _ _ cs rfl h
def sm (f : Nat → Int) : Nat → Int
  | 0 => 0
  | k + 1 => sm f k + f k
theorem Zy {f g : Nat → Int} : ∀ {n : Nat}, (∀ k, k < n → f k = g k) → sm f n = sm g n
  | 0, _ => rfl
  | n + 1, h => by simp only [sm]; rw [Zy fun k hk => h k (by omega), h n (by omega)]
theorem ZK {f : Nat → Int} : ∀ {n : Nat}, (∀ k, k < n → f k = 0) → sm f n = 0
  | 0, _ => rfl
  | n + 1, h => by simp only [sm]; rw [ZK fun k hk => h k (by omega), h n (by omega)]; rfl
theorem sm_mul (c : Int) (f : Nat → Int) : ∀ n : Nat, sm (fun k => c * f k) n = c * sm f n
  | 0 => by simp [sm]
  | n + 1 => by simp only [sm]; rw [sm_mul c f n, Int.mul_add]
theorem sm_add (f g : Nat → Int) : ∀ n : Nat, sm (fun k => f k + g k) n = sm f n + sm g n
  | 0 => rfl
  | n + 1 => by simp only [sm]; rw [sm_add f g n]; omega
theorem Yp {f : Nat → Int} {i : Nat} : ∀ {n : Nat}, i < n → (∀ k, k < n → k ≠ i → f k = 0) → sm f n = f i
  | 0, h, _ => by omega
  | n + 1, h, hz => by
    simp only [sm]
    by_cases e : i = n
    · subst e; rw [ZK fun k hk => hz k (by omega) (by omega)]; omega
    · rw [Yp (by omega : i < n) fun k hk hki => hz k (by omega) hki, hz n (by omega) (Ne.symm e)]; omega
theorem sm_two {f : Nat → Int} {i r : Nat} : ∀ {n : Nat}, i < n → r < n → i ≠ r → (∀ k, k < n → k ≠ i → k ≠ r → f k = 0) → sm f n = f i + f r
  | 0, h, _, _, _ => by omega
  | n + 1, h, h2, hn, hz => by
    simp only [sm]
    by_cases e : i = n
    · subst e; rw [Yp (by omega : r < i) fun k hk hki => hz k (by omega) (by omega) hki]; omega
    · by_cases e2 : r = n
      · subst e2; rw [Yp (by omega : i < r) fun k hk hki => hz k (by omega) hki (by omega)]
      · rw [sm_two (by omega : i < n) (by omega : r < n) hn fun k hk h3 h4 => hz k (by omega) h3 h4, hz n (by omega) (Ne.symm e) (Ne.symm e2)]; omega
theorem sm_pos {f : Nat → Int} : ∀ {n : Nat}, 0 < sm f n → ∃ k, k < n ∧ 0 < f k
  | 0, h => by simp [sm] at h
  | n + 1, h => by
    simp only [sm] at h
    by_cases h1 : 0 < f n
    · exact ⟨n, by omega, h1⟩
    · obtain ⟨k, hk, h2⟩ := sm_pos (f := f) (n := n) (by omega)
      exact ⟨k, by omega, h2⟩
theorem sm_le {f g : Nat → Int} : ∀ {n : Nat}, (∀ k, k < n → f k ≤ g k) → sm f n ≤ sm g n
  | 0, _ => Int.le_refl _
  | n + 1, h => by simp only [sm]; have := sm_le (n := n) fun k hk => h k (by omega); have := h n (by omega); omega
theorem sm_swap (a : Nat → Nat → Int) (m : Nat) : ∀ n : Nat, sm (fun j => sm (fun i => a i j) m) n = sm (fun i => sm (fun j => a i j) n) m
  | 0 => by simp only [sm]; rw [ZK]; intros; rfl
  | n + 1 => by simp only [sm]; rw [sm_swap a m n, sm_add]
theorem set_split {α : Type} {l : List α} {i : Nat} (h : i < l.length) (x : α) : l.set i x = l.take i ++ x :: l.drop (i + 1) := List.set_eq_take_append_cons_drop .. |>.trans (by rw [if_pos h])
theorem dt_set_lin {l : List Vec} {i : Nat} (h : i < l.length) (x y : Int) (u w : Vec) : dt (l.set i (lin x u y w)) = x * dt (l.set i u) + y * dt (l.set i w) := by
  rw [set_split h, set_split h, set_split h, dt_lin]
theorem two_split {α : Type} {l : List α} {i r : Nat} (h : i < r) (hr : r < l.length) (x y : α) : ∃ P M C : List α, (l.set i x).set r y = P ++ x :: (M ++ y :: C) ∧ ∀ x' y' : α, (l.set i x').set r y' = P ++ x' :: (M ++ y' :: C) := by
  have key : ∀ x' y' : α, (l.set i x').set r y' = l.take i ++ x' :: ((l.drop (i + 1)).take (r - (i + 1)) ++ y' :: l.drop (r + 1)) := fun x' y' => by
    rw [set_split (by omega) x', List.set_append_right _ _ (by rw [List.length_take]; omega)]
    congr 1
    have e : r - (List.take i l).length = (r - (i + 1)) + 1 := by rw [List.length_take]; omega
    rw [e, List.set_cons_succ, set_split (by rw [List.length_drop]; omega)]
    congr 3
    rw [List.drop_drop]; congr 1; omega
  exact ⟨_, _, _, key x y, key⟩
theorem dt_set_eq {l : List Vec} {i r : Nat} (hi : i < l.length) (hr : r < l.length) (h : i ≠ r) (u : Vec) : dt ((l.set i u).set r u) = 0 := by
  rcases Nat.lt_or_gt_of_ne h with h1 | h1
  · obtain ⟨P, M, C, e, _⟩ := two_split h1 hr u u; rw [e]; exact dt_eq u M P C
  · rw [List.set_comm _ _ h]; obtain ⟨P, M, C, e, _⟩ := two_split h1 hi u u; rw [e]; exact dt_eq u M P C
theorem dt_set_swap {l : List Vec} {i r : Nat} (hi : i < l.length) (hr : r < l.length) (h : i ≠ r) (u w : Vec) : dt ((l.set i u).set r w) = - dt ((l.set i w).set r u) := by
  rcases Nat.lt_or_gt_of_ne h with h1 | h1
  · obtain ⟨P, M, C, _, e⟩ := two_split h1 hr u w; rw [e, e]; exact dt_swap P M C u w
  · rw [List.set_comm _ _ h, List.set_comm _ _ h]; obtain ⟨P, M, C, _, e⟩ := two_split h1 hi u w; rw [e, e]; exact dt_swap P M C w u
def zv : Vec := fun _ => 0
def comb (c : Nat → Int) (u : Nat → Vec) (n : Nat) : Vec := fun i => sm (fun k => c k * u k i) n
theorem dt_set_zero {l : List Vec} {i : Nat} (h : i < l.length) : dt (l.set i zv) = 0 := by
  have := dt_set_lin h 0 0 zv zv; rw [show lin 0 zv 0 zv = zv from funext fun j => by simp [lin, zv]] at this
  simpa using this
theorem Yu {l : List Vec} {i : Nat} (h : i < l.length) (c : Nat → Int) (u : Nat → Vec) : ∀ n, dt (l.set i (comb c u n)) = sm (fun k => c k * dt (l.set i (u k))) n
  | 0 => by
    rw [show comb c u 0 = zv by funext j; rfl, dt_set_zero h]; rfl
  | n + 1 => by
    have e : comb c u (n + 1) = lin 1 (comb c u n) (c n) (u n) := by funext j; simp [comb, lin, sm]
    rw [e, dt_set_lin h, Yu h c u n]; simp [sm]
theorem dt_set_smul {l : List Vec} {i : Nat} (h : i < l.length) (x : Int) (u : Vec) : dt (l.set i (fun j => x * u j)) = x * dt (l.set i u) := by
  have := dt_set_lin h x 0 u zv; rw [show lin x u 0 zv = fun j => x * u j from funext fun j => by simp [lin]] at this; rw [this]; simp
section
variable (A : Nat → Vec)
def cols (bs : List Nat) : List Vec := bs.map A
def dD (bs : List Nat) : Int := dt (cols A bs)
def dT (bs : List Nat) (i : Nat) (x : Vec) : Int := dt ((cols A bs).set i x)
end
variable {A : Nat → Vec} {M : Nat} {bs : List Nat}
theorem Zu : (cols A bs).length = bs.length := by simp [cols]
theorem cols_set (r s : Nat) : cols A (bs.set r s) = (cols A bs).set r (A s) := by simp [cols, List.map_set]
theorem cols_at {k : Nat} (h : k < bs.length) : (cols A bs)[k]? = some (A (bs.getD k 0)) := by simp [cols, List.getD_eq_getElem?_getD, h]
theorem set_same {α : Type} {l : List α} {i : Nat} {x : α} (h : l[i]? = some x) : l.set i x = l := by
  obtain ⟨h1, h2⟩ := List.getElem?_eq_some_iff.1 h; rw [← h2]; exact List.set_getElem_self h1
theorem dT_own {i : Nat} (h : i < bs.length) : dT A bs i (A (bs.getD i 0)) = dD A bs := by
  unfold dT dD; rw [set_same (cols_at h)]
theorem dT_other {i k : Nat} (hi : i < bs.length) (hk : k < bs.length) (h : k ≠ i) : dT A bs i (A (bs.getD k 0)) = 0 := by
  unfold dT
  have e : (cols A bs).set i (A (bs.getD k 0)) = ((cols A bs).set k (A (bs.getD k 0))).set i (A (bs.getD k 0)) := by rw [set_same (cols_at hk)]
  rw [e]; exact dt_set_eq (by rw [Zu]; exact hk) (by rw [Zu]; exact hi) h _
theorem Y3 {i k : Nat} (hi : i < bs.length) (hk : k < bs.length) (h : k ≠ i) (he : bs.getD i 0 = bs.getD k 0) : dD A bs = 0 := by
  rw [← dT_own hi, he]; exact dT_other hi hk h
structure Bas (A : Nat → Vec) (V : Vec → Prop) (M : Nat) (bs : List Nat) : Prop where
  len : bs.length = M
  ne : dD A bs ≠ 0
  cr : ∀ x, V x → ∀ j, dD A bs * x j = sm (fun k => dT A bs k x * A (bs.getD k 0) j) M
theorem Bas.vec {V : Vec → Prop} (h : Bas A V M bs) {x : Vec} (hx : V x) : (fun j => dD A bs * x j) = comb (fun k => dT A bs k x) (fun k => A (bs.getD k 0)) M := funext fun j => h.cr x hx j
theorem Bas.two {V : Vec → Prop} (h : Bas A V M bs) {l : List Vec} {i : Nat} (hi : i < l.length) {x : Vec} (hx : V x) : dD A bs * dt (l.set i x) = sm (fun k => dT A bs k x * dt (l.set i (A (bs.getD k 0)))) M := by
  rw [← dt_set_smul hi, h.vec hx, Yu hi]
theorem getD_set' {bs : List Nat} {r s i : Nat} (hr : r < bs.length) : (bs.set r s).getD i 0 = if r = i then s else bs.getD i 0 := by
  simp only [List.getD_eq_getElem?_getD, List.getElem?_set]; by_cases hp : r = i
  · subst hp; simp [hr]
  · simp [hp]
theorem piv_D (r s : Nat) : dD A (bs.set r s) = dT A bs r (A s) := by unfold dD dT; rw [cols_set]
theorem piv_r (r s : Nat) (x : Vec) : dT A (bs.set r s) r x = dT A bs r x := by unfold dT; rw [cols_set, List.set_set]
theorem Bas.piv_i {V : Vec → Prop} (h : Bas A V M bs) {r s i : Nat} (hr : r < M) (hi : i < M) (hir : i ≠ r) {x : Vec} (hx : V x) :
    dD A bs * dT A (bs.set r s) i x = dT A bs r (A s) * dT A bs i x - dT A bs r x * dT A bs i (A s) := by
  have hl := h.len
  have hcl : (cols A bs).length = M := by rw [Zu]; exact hl
  have e : dT A (bs.set r s) i x = dt (((cols A bs).set r (A s)).set i x) := by unfold dT; rw [cols_set]
  rw [e, h.two (by rw [List.length_set]; omega) hx]; rw [sm_two hi hr hir]
  · have e1 : dt (((cols A bs).set r (A s)).set i (A (bs.getD i 0))) = dT A bs r (A s) := by
      rw [List.set_comm _ _ (Ne.symm hir), set_same (cols_at (by omega))]; rfl
    have e2 : dt (((cols A bs).set r (A s)).set i (A (bs.getD r 0))) = - dT A bs i (A s) := by
      rw [dt_set_swap (by omega) (by omega) (Ne.symm hir), set_same (cols_at (by omega))]; rfl
    rw [e1, e2]; grind
  · intro k hk h1 h2
    have e1 : ((cols A bs).set r (A s)).set i (A (bs.getD k 0)) = (((cols A bs).set r (A s)).set k (A (bs.getD k 0))).set i (A (bs.getD k 0)) := by
      rw [List.set_comm (i := r) (j := k) _ _ (Ne.symm h2), set_same (cols_at (by omega))]
    rw [e1, dt_set_eq (by rw [List.length_set]; omega) (by rw [List.length_set]; omega) h1, Int.mul_zero]
theorem piv_l {r s i : Nat} (hr : r < bs.length) (hi : i < bs.length) (hir : i ≠ r) : dT A (bs.set r s) i (A (bs.getD r 0)) = - dT A bs i (A s) := by
  unfold dT; rw [cols_set, dt_set_swap (by rw [Zu]; omega) (by rw [Zu]; omega) (Ne.symm hir), set_same (cols_at hr)]
theorem sm_split {f : Nat → Int} {r : Nat} : ∀ {n : Nat}, r < n → sm f n = sm (fun k => if k = r then 0 else f k) n + f r
  | 0, h => by omega
  | n + 1, h => by
    simp only [sm]
    by_cases e : r = n
    · subst e
      rw [if_pos rfl, Zy (f := f) (g := fun k => if k = r then 0 else f k) fun k hk => by rw [if_neg (by omega)]]; omega
    · rw [if_neg (Ne.symm e), sm_split (by omega : r < n)]; omega
theorem Bas.piv {V : Vec → Prop} (h : Bas A V M bs) {r s : Nat} (hr : r < M) (hs : V (A s)) (hp : dT A bs r (A s) ≠ 0) : Bas A V M (bs.set r s) := by
  have hl := h.len; refine ⟨by rw [List.length_set]; exact hl, by rw [piv_D]; exact hp, fun x hx j => ?_⟩; have hne := h.ne
  refine Int.eq_of_mul_eq_mul_left hne ?_
  rw [piv_D, ← sm_mul, sm_split hr]
  have e1 : sm (fun k => if k = r then 0 else dD A bs * (dT A (bs.set r s) k x * A ((bs.set r s).getD k 0) j)) M = sm (fun k => if k = r then 0 else (dT A bs r (A s) * dT A bs k x - dT A bs r x * dT A bs k (A s)) * A (bs.getD k 0) j) M := Zy fun k hk => by
    by_cases hkr : k = r
    · rw [if_pos hkr, if_pos hkr]
    · rw [if_neg hkr, if_neg hkr, getD_set' (by omega), if_neg (Ne.symm hkr), ← h.piv_i hr hk hkr hx]; grind
  have e2 := sm_split (f := fun k => (dT A bs r (A s) * dT A bs k x - dT A bs r x * dT A bs k (A s)) * A (bs.getD k 0) j) hr
  have e3 : sm (fun k => (dT A bs r (A s) * dT A bs k x - dT A bs r x * dT A bs k (A s)) * A (bs.getD k 0) j) M = dT A bs r (A s) * (dD A bs * x j) - dT A bs r x * (dD A bs * A s j) := by
    rw [h.cr x hx j, h.cr (A s) hs j, ← sm_mul, ← sm_mul]
    have : ∀ f g : Nat → Int, sm f M - sm g M = sm (fun k => f k + (-1) * g k) M := fun f g => by rw [sm_add, sm_mul]; omega
    rw [this]
    exact Zy fun k hk => by grind
  rw [e3] at e2; rw [e1, getD_set' (by omega), if_pos J, piv_r]
  have e4 : sm (fun k => if k = r then 0 else (dT A bs r (A s) * dT A bs k x - dT A bs r x * dT A bs k (A s)) * A (bs.getD k 0) j) M = dT A bs r (A s) * (dD A bs * x j) - dT A bs r x * (dD A bs * A s j) := by
    have : (dT A bs r (A s) * dT A bs r x - dT A bs r x * dT A bs r (A s)) * A (bs.getD r 0) j = 0 := by grind
    omega
  rw [e4]; grind
theorem dT_unit {bs : List Nat} (hl : bs.length = M) (hu : ∀ i, i < M → A (bs.getD i 0) = unit i) {x : Vec} (hx : ∀ j, M ≤ j → x j = 0) {i : Nat} (hi : i < M) : dT A bs i x = x i := by
  have hD : dD A bs = 1 := by
    unfold dD; rw [← dt_unit M]
    congr 1
    apply List.ext_getElem?
    intro k; by_cases hk : k < M
    · rw [cols_at (by omega), hu k hk]; simp [hk]
    · rw [List.getElem?_eq_none (by rw [Zu]; omega), List.getElem?_eq_none (by simp; omega)]
  have e : x = comb x unit M := by
    funext j
    unfold comb; by_cases hj : j < M
    · rw [Yp hj fun k _ hk => by simp [unit, Ne.symm hk]]; simp [unit]
    · rw [hx j (by omega), ZK fun k hk => by rw [show unit k j = 0 from if_neg (by omega), Int.mul_zero]]
  have e2 : dT A bs i x = sm (fun k => x k * dT A bs i (unit k)) M := by
    conv => lhs; rw [e]
    exact Yu (by rw [Zu]; omega) x unit M
  rw [e2, Yp hi fun k hk hki => by rw [← hu k hk, dT_other (by omega) (by omega) hki, Int.mul_zero], ← hu i hi, dT_own (by omega), hD, Int.mul_one]
theorem Bas.start {bs : List Nat} {V : Vec → Prop} (hl : bs.length = M) (hu : ∀ i, i < M → A (bs.getD i 0) = unit i) (hV : ∀ x, V x → ∀ j, M ≤ j → x j = 0) : Bas A V M bs ∧ dD A bs = 1 := by
  have hD : dD A bs = 1 := by
    unfold dD; rw [← dt_unit M]
    congr 1
    apply List.ext_getElem?
    intro k; by_cases hk : k < M
    · rw [cols_at (by omega), hu k hk]; simp [hk]
    · rw [List.getElem?_eq_none (by rw [Zu]; omega), List.getElem?_eq_none (by simp; omega)]
  refine ⟨⟨hl, by rw [hD]; decide, fun x hx j => ?_⟩, hD⟩; rw [hD, Int.one_mul]; by_cases hj : j < M
  · rw [Yp hj fun k hk hkj => by rw [hu k hk]; simp [unit, Ne.symm hkj], dT_unit hl hu (hV x hx) hj, hu j hj]; simp [unit]
  · rw [hV x hx j (by omega), ZK fun k hk => by rw [hu k hk, show unit k j = 0 from if_neg (by omega), Int.mul_zero]]
end Go.Det
namespace Go.Det
section
variable (A : Nat → Vec)
def tt (bs : List Nat) (i : Nat) (x : Vec) : Int := (dD A bs).sign * dT A bs i x
def den (bs : List Nat) : Int := (dD A bs).sign * dD A bs
end
variable {A : Nat → Vec} {V : Vec → Prop} {M : Nat} {bs : List Nat}
theorem sgn_sq {d : Int} (h : d ≠ 0) : d.sign * d.sign = 1 := by
  rcases Int.lt_or_gt_of_ne h with h | h
  · rw [Int.sign_eq_neg_one_of_neg h]; rfl
  · rw [Int.sign_eq_one_of_pos h]; rfl
theorem den_pos (h : dD A bs ≠ 0) : 0 < den A bs := by
  unfold den; rcases Int.lt_or_gt_of_ne h with h | h
  · rw [Int.sign_eq_neg_one_of_neg h]; omega
  · rw [Int.sign_eq_one_of_pos h]; omega
theorem sign_of_mul {d p : Int} (h : d ≠ 0) (hp : 0 < d.sign * p) : p.sign = d.sign := by
  rcases Int.lt_or_gt_of_ne h with h | h
  · rw [Int.sign_eq_neg_one_of_neg h] at hp ⊢; exact Int.sign_eq_neg_one_of_neg (by omega)
  · rw [Int.sign_eq_one_of_pos h] at hp ⊢; exact Int.sign_eq_one_of_pos (by omega)
theorem tt_own (hl : bs.length = M) {i : Nat} (h : i < M) : tt A bs i (A (bs.getD i 0)) = den A bs := by unfold tt den; rw [dT_own (by omega)]
theorem Zg (hl : bs.length = M) {i k : Nat} (hi : i < M) (hk : k < M) (h : k ≠ i) : tt A bs i (A (bs.getD k 0)) = 0 := by unfold tt; rw [dT_other (by omega) (by omega) h, Int.mul_zero]
theorem Bas.pos {r s : Nat} (h : Bas A V M bs) (hp : 0 < tt A bs r (A s)) : dT A bs r (A s) ≠ 0 := fun e => by unfold tt at hp; rw [e] at hp; simp at hp
theorem Bas.sgn' {r s : Nat} (h : Bas A V M bs) (hp : 0 < tt A bs r (A s)) : (dD A (bs.set r s)).sign = (dD A bs).sign := by
  rw [piv_D]; exact sign_of_mul h.ne hp
theorem Bas.den' {r s : Nat} (h : Bas A V M bs) (hp : 0 < tt A bs r (A s)) : den A (bs.set r s) = tt A bs r (A s) := by
  unfold den; rw [h.sgn' hp, piv_D]; rfl
theorem Bas.tt_r {r s : Nat} (h : Bas A V M bs) (hp : 0 < tt A bs r (A s)) (x : Vec) : tt A (bs.set r s) r x = tt A bs r x := by
  unfold tt; rw [h.sgn' hp, piv_r]
theorem Bas.tt_i {r s i : Nat} (h : Bas A V M bs) (hr : r < M) (hi : i < M) (hir : i ≠ r) (hp : 0 < tt A bs r (A s)) {x : Vec} (hx : V x) :
    den A bs * tt A (bs.set r s) i x = tt A bs r (A s) * tt A bs i x - tt A bs r x * tt A bs i (A s) := by
  have h1 := h.piv_i (s := s) hr hi hir hx; have h2 := sgn_sq h.ne; unfold tt den; rw [h.sgn' hp]; generalize (dD A bs).sign = σ at *
  grind
theorem Bas.tt_two {bs2 : List Nat} (h : Bas A V M bs) (h2 : Bas A V M bs2) {g : Nat} (hg : g < M) {x : Vec} (hx : V x) : den A bs * tt A bs2 g x = sm (fun k => tt A bs k x * tt A bs2 g (A (bs.getD k 0))) M := by
  have h1 := h.two (l := cols A bs2) (i := g) (by rw [Zu, h2.len]; exact hg) hx; unfold tt den
  have e : sm (fun k => (dD A bs).sign * dT A bs k x * ((dD A bs2).sign * dT A bs2 g (A (bs.getD k 0)))) M = (dD A bs).sign * (dD A bs2).sign * sm (fun k => dT A bs k x * dt ((cols A bs2).set g (A (bs.getD k 0)))) M := by
    rw [← sm_mul]
    exact Zy fun k _ => by unfold dT; grind
  rw [e, ← h1]; unfold dT; grind
structure Step (A : Nat → Vec) (m g : Nat) (q : Vec) (al : Nat → Prop) (bs : List Nat) (r s : Nat) : Prop where
  row : r < m
  alw : al s
  ent : tt A bs g (A s) < 0
  least : ∀ v, v < s → al v → 0 ≤ tt A bs g (A v)
  lev : 0 < tt A bs r (A s)
  ratio : ∀ i, i < m → 0 < tt A bs i (A s) → tt A bs r q * tt A bs i (A s) ≤ tt A bs i q * tt A bs r (A s)
  tie : ∀ i, i < m → 0 < tt A bs i (A s) → tt A bs r q * tt A bs i (A s) = tt A bs i q * tt A bs r (A s) → bs.getD r 0 ≤ bs.getD i 0
theorem Step.bas {m g r s : Nat} {q : Vec} {al : Nat → Prop} (h : Step A m g q al bs r s) (hB : Bas A V M bs) (hm : m ≤ M) (hA : ∀ v, V (A v)) : Bas A V M (bs.set r s) := hB.piv (by have := h.row; omega) (hA s) (hB.pos h.lev)
theorem Step.feas {m g r s : Nat} {q : Vec} {al : Nat → Prop} (h : Step A m g q al bs r s) (hB : Bas A V M bs) (hm : m ≤ M) (hq : V q) (hf : ∀ i, i < m → 0 ≤ tt A bs i q) : ∀ i, i < m → 0 ≤ tt A (bs.set r s) i q := fun i hi => by
  have hr := h.row
  by_cases hir : i = r
  · subst hir; rw [hB.tt_r h.lev]; exact hf i hi
  · have h1 := hB.tt_i (by omega) (by omega) hir h.lev hq
    have hd := den_pos hB.ne
    have h3 := hf i hi
    have h4 := hf r hr
    have h5 := h.lev
    have key : 0 ≤ den A bs * tt A (bs.set r s) i q := by
      rw [h1]; by_cases h2 : 0 < tt A bs i (A s)
      · have := h.ratio i hi h2; have e : tt A bs r (A s) * tt A bs i q = tt A bs i q * tt A bs r (A s) := Int.mul_comm _ _; omega
      · have a1 : 0 ≤ tt A bs r (A s) * tt A bs i q := Int.mul_nonneg (by omega) h3; have a2 : tt A bs r q * tt A bs i (A s) ≤ 0 := Int.mul_nonpos_of_nonneg_of_nonpos h4 (by omega); omega
    rcases (show tt A (bs.set r s) i q < 0 ∨ 0 ≤ tt A (bs.set r s) i q by omega) with h6 | h6
    · have := Int.mul_neg_of_pos_of_neg hd h6; omega
    · exact h6
theorem divInt_le {a b c d : Int} (hb : 0 < b) (hd : 0 < d) : Rat.divInt a b ≤ Rat.divInt c d ↔ a * d ≤ c * b := by
  rw [Rat.le_iff_sub_nonneg, Rat.divInt_sub_divInt _ _ (by omega) (by omega), Rat.divInt_nonneg_iff_of_pos_right (Int.mul_pos hd hb)]; omega
def ob (A : Nat → Vec) (g : Nat) (q : Vec) (bs : List Nat) : Rat := Rat.divInt (tt A bs g q) (den A bs)
theorem Step.obj {m g r s : Nat} {q : Vec} {al : Nat → Prop} (h : Step A m g q al bs r s) (hB : Bas A V M bs) (hm : m ≤ g) (hg : g < M) (hq : V q) (hA : ∀ v, V (A v)) (hf : ∀ i, i < m → 0 ≤ tt A bs i q) :
    ob A g q bs ≤ ob A g q (bs.set r s) ∧ (ob A g q (bs.set r s) = ob A g q bs → tt A bs r q = 0) := by
  have hr := h.row; have hd := den_pos hB.ne; have hd' := den_pos (h.bas hB (by omega) hA).ne; have h1 := hB.tt_i (i := g) (by omega) hg (by omega) h.lev hq; have h2 := hB.den' h.lev; have h3 := h.ent; have h4 := hf r hr; unfold ob; rw [h2] at hd' ⊢; constructor
  · rw [divInt_le hd hd']; have a : tt A bs r q * tt A bs g (A s) ≤ 0 := Int.mul_nonpos_of_nonneg_of_nonpos h4 (by omega); have e1 : tt A (bs.set r s) g q * den A bs = den A bs * tt A (bs.set r s) g q := Int.mul_comm _ _; have e2 : tt A bs g q * tt A bs r (A s) = tt A bs r (A s) * tt A bs g q := Int.mul_comm _ _; omega
  · intro he; have he' := (Rat.divInt_eq_divInt_iff (by omega) (by omega)).1 he; have e1 : tt A (bs.set r s) g q * den A bs = den A bs * tt A (bs.set r s) g q := Int.mul_comm _ _; have e2 : tt A bs g q * tt A bs r (A s) = tt A bs r (A s) * tt A bs g q := Int.mul_comm _ _
    have e3 : tt A bs r q * tt A bs g (A s) = 0 := by omega
    rcases Int.mul_eq_zero.1 e3 with h5 | h5
    · exact h5
    · omega
theorem nat_hole : ∀ (n : Nat) (f : Nat → Nat), (∀ k, f k < n) → ∃ i j, i < j ∧ f i = f j
  | 0, f, h => absurd (h 0) (by omega)
  | n + 1, f, h => by
    by_cases h1 : ∃ a, f a = n
    · obtain ⟨a, ha⟩ := h1
      by_cases h2 : ∃ b, a < b ∧ f b = n
      · obtain ⟨b, hb, hb2⟩ := h2
        exact ⟨a, b, hb, by rw [ha, hb2]⟩
      · obtain ⟨i, j, hij, he⟩ := nat_hole n (fun k => f (a + 1 + k)) (fun k => by
          have := h (a + 1 + k)
          have : f (a + 1 + k) ≠ n := fun e => h2 ⟨a + 1 + k, by omega, e⟩
          omega)
        exact ⟨a + 1 + i, a + 1 + j, by omega, he⟩
    · exact nat_hole n f (fun k => by
        have := h k
        have : f k ≠ n := fun e => h1 ⟨k, e⟩
        omega)
def enc (N : Nat) : List Nat → Nat
  | [] => 0
  | d :: l => d + N * enc N l
theorem enc_lt {N : Nat} : ∀ {l : List Nat}, (∀ d ∈ l, d < N) → enc N l < N ^ l.length
  | [], _ => by simp [enc]
  | d :: l, h => by
    have h1 := h d (List.mem_cons_self ..)
    have h2 := enc_lt (l := l) fun d hd => h d (List.mem_cons_of_mem _ hd)
    simp only [enc, List.length_cons, Nat.pow_succ]
    have h3 : N * (enc N l + 1) ≤ N * N ^ l.length := Nat.mul_le_mul_left _ h2
    rw [Nat.mul_add, Nat.mul_one] at h3
    rw [Nat.mul_comm (N ^ l.length) N]
    omega
theorem enc_inj {N : Nat} : ∀ {l k : List Nat}, (∀ d ∈ l, d < N) → (∀ d ∈ k, d < N) → l.length = k.length → enc N l = enc N k → l = k
  | [], [], _, _, _, _ => rfl
  | d :: l, e :: k, h1, h2, hl, he => by
    have a1 := h1 d (List.mem_cons_self ..)
    have a2 := h2 e (List.mem_cons_self ..)
    simp only [enc] at he
    have m1 : (d + N * enc N l) % N = d := by rw [Nat.add_mul_mod_self_left, Nat.mod_eq_of_lt a1]
    have m2 : (e + N * enc N k) % N = e := by rw [Nat.add_mul_mod_self_left, Nat.mod_eq_of_lt a2]
    have hde : d = e := by rw [← m1, ← m2, he]
    subst hde
    have h3 : N * enc N l = N * enc N k := by omega
    rw [enc_inj (fun d hd => h1 d (List.mem_cons_of_mem _ hd)) (fun d hd => h2 d (List.mem_cons_of_mem _ hd)) (by simpa using hl) (Nat.eq_of_mul_eq_mul_left (by omega) h3)]
  | [], _ :: _, _, _, hl, _ => by simp at hl
  | _ :: _, [], _, _, hl, _ => by simp at hl
theorem list_hole {N M : Nat} (f : Nat → List Nat) (hl : ∀ k, (f k).length = M) (hN : ∀ k, ∀ d ∈ f k, d < N) : ∃ i j, i < j ∧ f i = f j := by
  obtain ⟨i, j, hij, he⟩ := nat_hole (N ^ M) (fun k => enc N (f k)) (fun k => by have := enc_lt (hN k); rwa [hl k] at this); exact ⟨i, j, hij, enc_inj (hN i) (hN j) (by rw [hl, hl]) he⟩
theorem exists_max (f : Nat → Nat) (a : Nat) : ∀ n, 0 < n → ∃ e, a ≤ e ∧ e < a + n ∧ ∀ k, a ≤ k → k < a + n → f k ≤ f e
  | 0, h => absurd h (by omega)
  | 1, _ => ⟨a, by omega, by omega, fun k h1 h2 => by
    have : k = a := by omega
    rw [this]; exact Nat.le_refl _⟩
  | n + 2, _ => by
    obtain ⟨e, h1, h2, h3⟩ := exists_max f a (n + 1) (by omega)
    by_cases h4 : f e ≤ f (a + n + 1)
    · refine ⟨a + n + 1, by omega, by omega, fun k hk1 hk2 => ?_⟩
      rcases Nat.lt_or_ge k (a + (n + 1)) with h5 | h5
      · exact Nat.le_trans (h3 k hk1 h5) h4
      · have : k = a + n + 1 := by omega
        rw [this]; exact Nat.le_refl _
    · refine ⟨e, h1, by omega, fun k hk1 hk2 => ?_⟩
      rcases Nat.lt_or_ge k (a + (n + 1)) with h5 | h5
      · exact h3 k hk1 h5
      · have : k = a + n + 1 := by omega
        rw [this]; omega
structure Run (A : Nat → Vec) (V : Vec → Prop) (M m g : Nat) (q : Vec) (al : Nat → Prop) (N : Nat) (B : Nat → List Nat) (r s : Nat → Nat) : Prop where
  bas : Bas A V M (B 0)
  feas : ∀ i, i < m → 0 ≤ tt A (B 0) i q
  hq : V q
  hA : ∀ v, V (A v)
  mg : m ≤ g
  gM : g < M
  step : ∀ k, Step A m g q al (B k) (r k) (s k)
  next : ∀ k, B (k + 1) = (B k).set (r k) (s k)
  few : ∀ d ∈ B 0, d < N
  alN : ∀ v, al v → v < N
section
variable {m g : Nat} {q : Vec} {al : Nat → Prop} {N : Nat} {B : Nat → List Nat} {r s : Nat → Nat}
theorem Run.basA (R : Run A V M m g q al N B r s) : ∀ k, Bas A V M (B k)
  | 0 => R.bas
  | k + 1 => by rw [R.next]; exact (R.step k).bas (R.basA k) (by have := R.mg; have := R.gM; omega) R.hA
theorem Run.feasA (R : Run A V M m g q al N B r s) : ∀ k, ∀ i, i < m → 0 ≤ tt A (B k) i q
  | 0 => R.feas
  | k + 1 => by rw [R.next]; exact (R.step k).feas (R.basA k) (by have := R.mg; have := R.gM; omega) R.hq (R.feasA k)
theorem Run.fewA (R : Run A V M m g q al N B r s) : ∀ k, ∀ d ∈ B k, d < N
  | 0 => R.few
  | k + 1 => fun d hd => by
    rw [R.next] at hd
    rcases List.mem_or_eq_of_mem_set hd with h | h
    · exact R.fewA k d h
    · rw [h]; exact R.alN _ (R.step k).alw
theorem Run.mono (R : Run A V M m g q al N B r s) (a : Nat) : ∀ n, ob A g q (B a) ≤ ob A g q (B (a + n))
  | 0 => Rat.le_refl
  | n + 1 => Rat.le_trans (R.mono a n) (by
    have := ((R.step (a + n)).obj (R.basA _) R.mg R.gM R.hq R.hA (R.feasA _)).1
    rw [← R.next] at this; exact this)
def In (M : Nat) (B : Nat → List Nat) (k v : Nat) : Prop := ∃ i, i < M ∧ (B k).getD i 0 = v
theorem Run.in_next (R : Run A V M m g q al N B r s) {k v : Nat} (h : In M B (k + 1) v) : In M B k v ∨ v = s k := by
  obtain ⟨i, hi, he⟩ := h; have hr := (R.step k).row; have hl := (R.basA k).len; rw [R.next, getD_set' (by have := R.mg; have := R.gM; omega)] at he; split at he
  · exact .inr he.symm
  · exact .inl ⟨i, hi, he⟩
theorem Run.in_stay (R : Run A V M m g q al N B r s) {k v : Nat} (h : In M B k v) (hn : (B k).getD (r k) 0 ≠ v) : In M B (k + 1) v := by
  obtain ⟨i, hi, he⟩ := h; have hr := (R.step k).row; have hl := (R.basA k).len; refine ⟨i, hi, ?_⟩; rw [R.next, getD_set' (by have := R.mg; have := R.gM; omega), if_neg (fun e => by rw [e] at hn; exact hn he)]; exact he
theorem Run.not_in (R : Run A V M m g q al N B r s) (k : Nat) : ¬ In M B k (s k) := fun ⟨i, hi, he⟩ => by
  have h1 := (R.step k).ent
  have hB := R.basA k
  rw [← he] at h1
  by_cases hig : i = g
  · subst hig; rw [tt_own hB.len hi] at h1; have := den_pos hB.ne; omega
  · rw [Zg hB.len R.gM hi hig] at h1; omega
theorem Run.new_in (R : Run A V M m g q al N B r s) (k : Nat) : In M B (k + 1) (s k) := by
  have hr := (R.step k).row; have := R.mg; have := R.gM; have hl := (R.basA k).len; exact ⟨r k, by omega, by rw [R.next, getD_set' (by omega), if_pos J]⟩
theorem Run.down (R : Run A V M m g q al N B r s) {k0 k1 v : Nat} (hn : ∀ k, k0 ≤ k → k < k1 → s k ≠ v) (a : Nat) (ha : k0 ≤ a) : ∀ n, a + n ≤ k1 → In M B (a + n) v → In M B a v
  | 0, _, h => h
  | n + 1, hle, h => by
    rcases R.in_next h with h1 | h1
    · exact R.down hn a ha n (by omega) h1
    · exact absurd h1.symm (hn (a + n) (by omega) (by omega))
theorem Run.up (R : Run A V M m g q al N B r s) {k0 k1 v : Nat} (hn : ∀ k, k0 ≤ k → k < k1 → (B k).getD (r k) 0 ≠ v) (a : Nat) (ha : k0 ≤ a) : ∀ n, a + n ≤ k1 → In M B a v → In M B (a + n) v
  | 0, _, h => h
  | n + 1, hle, h => R.in_stay (R.up hn a ha n (by omega) h) (hn (a + n) (by omega) (by omega))
theorem Run.goal (R : Run A V M m g q al N B r s) {j : Nat} (hj : m ≤ j) : ∀ k, (B k).getD j 0 = (B 0).getD j 0
  | 0 => rfl
  | k + 1 => by
    have hr := (R.step k).row
    have := R.mg
    have := R.gM
    have hl := (R.basA k).len
    rw [R.next, getD_set' (by omega), if_neg (by omega)]
    exact R.goal hj k
def Zr (A : Nat → Vec) (m : Nat) (q : Vec) (B : Nat → List Nat) (k v : Nat) : Prop := ∀ i, i < m → (B k).getD i 0 = v → tt A (B k) i q = 0
theorem Run.z_fwd (R : Run A V M m g q al N B r s) {k v : Nat} (hd : tt A (B k) (r k) q = 0) (h : Zr A m q B k v) : Zr A m q B (k + 1) v := fun i hi he => by
  have hr := (R.step k).row
  have := R.mg
  have := R.gM
  have hB := R.basA k
  have hl := hB.len
  rw [R.next] at he ⊢
  rw [getD_set' (by omega)] at he
  by_cases hir : r k = i
  · subst hir; rw [hB.tt_r (R.step k).lev]; exact hd
  · rw [if_neg hir] at he
    have h1 := hB.tt_i (by omega) (by omega) (Ne.symm hir) (R.step k).lev R.hq
    rw [h i hi he, hd, Int.mul_zero, Int.zero_mul, Int.sub_zero] at h1
    have := den_pos hB.ne
    rcases Int.mul_eq_zero.1 h1 with h2 | h2
    · omega
    · exact h2
theorem Run.z_bwd (R : Run A V M m g q al N B r s) {k v : Nat} (hd : tt A (B k) (r k) q = 0) (h : Zr A m q B (k + 1) v) : Zr A m q B k v := fun i hi he => by
  have hr := (R.step k).row
  have := R.mg
  have := R.gM
  have hB := R.basA k
  have hl := hB.len
  by_cases hir : r k = i
  · subst hir; exact hd
  · have h2 := h i hi (by rw [R.next, getD_set' (by omega), if_neg hir]; exact he)
    rw [R.next] at h2
    have h1 := hB.tt_i (by omega) (by omega) (Ne.symm hir) (R.step k).lev R.hq
    rw [h2, hd, Int.mul_zero, Int.zero_mul, Int.sub_zero] at h1
    have := (R.step k).lev
    rcases Int.mul_eq_zero.1 h1.symm with h3 | h3
    · omega
    · exact h3
theorem Run.z_all (R : Run A V M m g q al N B r s) {k0 k1 e : Nat} (hd : ∀ k, k0 ≤ k → k < k1 → tt A (B k) (r k) q = 0) (h1 : k0 ≤ e) (h2 : e < k1) : ∀ k, k0 ≤ k → k ≤ k1 → Zr A m q B k (s e) := by
  have h0 : Zr A m q B e (s e) := fun i hi he => absurd ⟨i, by have := R.mg; have := R.gM; omega, he⟩ (R.not_in e)
  have fwd : ∀ n, e + n ≤ k1 → Zr A m q B (e + n) (s e) := fun n => by
    induction n with
    | zero => intro _; exact h0
    | succ n ih => intro hn; exact R.z_fwd (hd (e + n) (by omega) (by omega)) (ih (by omega))
  have bwd : ∀ n, n ≤ e → k0 ≤ e - n → Zr A m q B (e - n) (s e) := fun n => by
    induction n with
    | zero => intro _ _; exact h0
    | succ n ih =>
      intro hn hk; have := ih (by omega) (by omega)
      have e1 : e - n = (e - (n + 1)) + 1 := by omega
      rw [e1] at this; exact R.z_bwd (hd _ hk (by omega)) this
  intro k hk1 hk2; rcases Nat.lt_or_ge k e with h3 | h3
  · have := bwd (e - k) (by omega) (by omega)
    rwa [show e - (e - k) = k by omega] at this
  · have := fwd (k - e) (by omega)
    rwa [show e + (k - e) = k by omega] at this
theorem Run.no (R : Run A V M m g q al N B r s) : False := by
  have hmg := R.mg; have hgM := R.gM; obtain ⟨k0, k1, hk, hB⟩ := list_hole B (fun k => (R.basA k).len) R.fewA
  have ob0 : ∀ k, k0 ≤ k → k ≤ k1 → ob A g q (B k) = ob A g q (B k0) := fun k h1 h2 => by
    have a1 := R.mono k0 (k - k0); have a2 := R.mono k (k1 - k); rw [show k0 + (k - k0) = k by omega] at a1; rw [show k + (k1 - k) = k1 by omega, ← hB] at a2; exact Rat.le_antisymm a2 a1
  have hd : ∀ k, k0 ≤ k → k < k1 → tt A (B k) (r k) q = 0 := fun k h1 h2 => by
    refine ((R.step k).obj (R.basA _) R.mg R.gM R.hq R.hA (R.feasA _)).2 ?_
    rw [← R.next, ob0 (k + 1) (by omega) (by omega), ob0 k (by omega) (by omega)]
  have fick : ∀ a b v, k0 ≤ a → a ≤ k1 → k0 ≤ b → b ≤ k1 → In M B a v → ¬ In M B b v → ∃ k, k0 ≤ k ∧ k < k1 ∧ s k = v := fun a b v ha1 ha2 hb1 hb2 hi hn => by
    refine Classical.byContradiction fun hno => ?_
    have hne : ∀ k, k0 ≤ k → k < k1 → s k ≠ v := fun k h1 h2 h3 => hno ⟨k, h1, h2, h3⟩
    have i0 := R.down hne k0 (Nat.le_refl _) (a - k0) (by omega) (by rw [show k0 + (a - k0) = a by omega]; exact hi)
    have i1 : In M B k1 v := by obtain ⟨i, h1, h2⟩ := i0; exact ⟨i, h1, by rw [← hB]; exact h2⟩
    exact hn (R.down hne b hb1 (k1 - b) (by omega) (by rw [show b + (k1 - b) = k1 by omega]; exact i1))
  obtain ⟨e, he1, he2, hmax⟩ := exists_max s k0 (k1 - k0) (by omega); rw [show k0 + (k1 - k0) = k1 by omega] at he2 hmax
  have hleave : ∃ d, k0 ≤ d ∧ d < k1 ∧ (B d).getD (r d) 0 = s e := by
    refine Classical.byContradiction fun hno => ?_
    have hne : ∀ k, k0 ≤ k → k < k1 → (B k).getD (r k) 0 ≠ s e := fun k h1 h2 h3 => hno ⟨k, h1, h2, h3⟩
    have i1 := R.up hne (e + 1) (by omega) (k1 - (e + 1)) (by omega) (R.new_in e); rw [show e + 1 + (k1 - (e + 1)) = k1 by omega] at i1
    have i0 : In M B k0 (s e) := by obtain ⟨i, h1, h2⟩ := i1; exact ⟨i, h1, by rw [hB]; exact h2⟩
    have i2 := R.up hne k0 (Nat.le_refl _) (e - k0) (by omega) i0; rw [show k0 + (e - k0) = e by omega] at i2; exact R.not_in e i2
  obtain ⟨d, hd1, hd2, hdl⟩ := hleave; have Sd := R.step d; have Se := R.step e; have Bd := R.basA d; have Be := R.basA e; have hrd := Sd.row
  have hsne : s d ≠ s e := fun h => R.not_in d ⟨r d, by omega, by rw [hdl, h]⟩
  have hslt : s d < s e := by have := hmax d hd1 hd2; omega
  have two := Bd.tt_two Be hgM (R.hA (s d)); have lhs := Se.least (s d) hslt Sd.alw; have dd := den_pos Bd.ne; have de := den_pos Be.ne; rw [sm_split hgM] at two
  have hg0 : tt A (B e) g (A ((B d).getD g 0)) = den A (B e) := by
    rw [R.goal hmg d, ← R.goal hmg e]; exact tt_own Be.len hgM
  rw [hg0] at two; have t1 := Int.mul_neg_of_neg_of_pos Sd.ent de; have t2 := Int.mul_nonneg (Int.le_of_lt dd) lhs; obtain ⟨k, hkM, hkp⟩ := sm_pos (f := fun k => if k = g then 0 else tt A (B d) k (A (s d)) * tt A (B e) g (A ((B d).getD k 0))) (n := M) (by omega); by_cases hkg : k = g
  · rw [if_pos hkg] at hkp; omega
  rw [if_neg hkg] at hkp
  have hfac : tt A (B e) g (A ((B d).getD k 0)) ≠ 0 := fun h => by rw [h, Int.mul_zero] at hkp; omega
  have hnin : ¬ In M B e ((B d).getD k 0) := fun ⟨i, hi, hie⟩ => by
    by_cases hig : i = g
    · subst hig; have h1 := R.goal hmg e; rw [R.goal hmg e, ← R.goal hmg d] at hie; exact Bd.ne (Y3 (i := i) (k := k) (by rw [Bd.len]; omega) (by rw [Bd.len]; omega) hkg hie)
    · rw [← hie] at hfac; exact hfac (Zg Be.len hgM hi hig)
  have hin : In M B d ((B d).getD k 0) := ⟨k, hkM, rfl⟩
  have hkm : k < m := by
    rcases Nat.lt_or_ge k m with h | h
    · exact h
    · exact absurd ⟨k, hkM, by rw [R.goal h e, ← R.goal h d]⟩ hnin
  obtain ⟨f, hf1, hf2, hf3⟩ := fick d e _ hd1 (by omega) he1 (by omega) hin hnin; have hfle := hmax f hf1 hf2; rw [hf3] at hfle; have hZ := R.z_all hd hf1 hf2 d hd1 (by omega) k hkm hf3.symm
  have halw : al ((B d).getD k 0) := by rw [← hf3]; exact (R.step f).alw
  by_cases hkt : (B d).getD k 0 = s e
  · have hkr : k = r d := Classical.byContradiction fun h => Bd.ne (Y3 (i := r d) (k := k) (by rw [Bd.len]; omega) (by rw [Bd.len]; omega) h (by rw [hdl, hkt]))
    rw [hkt, hkr] at hkp; have := Int.mul_neg_of_pos_of_neg Sd.lev Se.ent; omega
  · have h1 := Se.least _ (by omega) halw
    have h2 : 0 < tt A (B e) g (A ((B d).getD k 0)) := by omega
    have h3 : 0 < tt A (B d) k (A (s d)) := by
      rcases (show 0 < tt A (B d) k (A (s d)) ∨ tt A (B d) k (A (s d)) ≤ 0 by omega) with h | h
      · exact h
      · have := Int.mul_nonpos_of_nonpos_of_nonneg h h1; omega
    have h4 := Sd.tie k hkm h3 (by rw [hd d hd1 hd2, hZ, Int.zero_mul, Int.zero_mul]); rw [hdl] at h4; omega
end
end Go.Det
