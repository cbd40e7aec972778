/- The proof that LinearSolves holds for every input, without conditions: part 2 of 6. -/
import Derived.Test.YtdhmbgogmoaofaaGreatZ1
namespace Go.Own
open Go.RowKit
variable {X : Ctx} {L : AL} {B : BL} {ops : Array Oper} {K : Act → World → Prop} {r : Pl} {k : Kd}
  {x y z : Operand} {d : Nat} {t t2 t' : TypeId} {pos : String} {af : Array Edge} {g : Option (Nat × Bool)}
theorem ishl {p j : Int} {kk : IntKind} (n : Nat) (hj : j = (n : Int)) (hn : n ≤ 64) (h1 : -9223372036854775808 ≤ p * 2 ^ n) (h2 : p * 2 ^ n ≤ 9223372036854775807) : IBin .shl .i64 p kk j (.int .i64 (p * 2 ^ n)) := .of fun P t w => by
  show (Op.shift .shl .i64 p kk j).run P w = _
  have e : (Op.shift .shl .i64 p kk j) = pure (.int .i64 (IntKind.i64.wrap (p * 2 ^ n))) := by
    unfold Op.shift; rw [if_neg (by omega)]
    have : min j.toNat IntKind.i64.bits = n := by show min j.toNat 64 = n; omega
    simp only [this]
  rw [e, Yq h1 h2]; rfl
theorem ishr {p j : Int} {kk : IntKind} (n : Nat) (hj : j = (n : Int)) (hn : n ≤ 64) : IBin .shr .i64 p kk j (.int .i64 (p / 2 ^ n)) := .of fun P t w => by
  show (Op.shift .shr .i64 p kk j).run P w = _
  have e : (Op.shift .shr .i64 p kk j) = pure (.int .i64 (p.fdiv (2 ^ n))) := by
    unfold Op.shift; rw [if_neg (by omega)]
    have : min j.toNat IntKind.i64.bits = n := by show min j.toNat 64 = n; omega
    simp only [this]
  rw [e, Int.fdiv_eq_ediv_of_nonneg _ (Int.le_of_lt (Int.pow_pos (by decide)))]; rfl
theorem ushr {p j : Int} {kk : IntKind} (n : Nat) (hj : j = (n : Int)) (hn : n ≤ 64) : IBin .shr .u64 p kk j (.int .u64 (p / 2 ^ n)) := .of fun P t w => by
  show (Op.shift .shr .u64 p kk j).run P w = _
  have e : (Op.shift .shr .u64 p kk j) = pure (.int .u64 (p.fdiv (2 ^ n))) := by
    unfold Op.shift; rw [if_neg (by omega)]
    have : min j.toNat IntKind.u64.bits = n := by show min j.toNat 64 = n; omega
    simp only [this]
  rw [e, Int.fdiv_eq_ediv_of_nonneg _ (Int.le_of_lt (Int.pow_pos (by decide)))]; rfl
theorem ior_add {p q : Int} (n : Nat) (m : Nat) (hp0 : 0 ≤ p) (hp : p < 2 ^ n) (hq : q = (m : Int) * 2 ^ n) (hs : p + q ≤ 9223372036854775807) : IBin .or .i64 p .i64 q (.int .i64 (p + q)) := .of fun P t w => by
  have hq0 : 0 ≤ q := by rw [hq]; exact Int.mul_nonneg (by omega) (Int.le_of_lt (Int.pow_pos (by decide)))
  show (Op.intBits .or .i64 p q).run P w = _
  have e1 : (BitVec.ofInt 64 p ||| BitVec.ofInt 64 q).toNat = (p + q).toNat := by
    rw [BitVec.toNat_or, BitVec.toNat_ofInt, BitVec.toNat_ofInt]
    have a1 : (p % ((2 ^ 64 : Nat) : Int)).toNat = p.toNat := by omega
    have a2 : (q % ((2 ^ 64 : Nat) : Int)).toNat = q.toNat := by omega
    rw [a1, a2]
    have hqn : q.toNat = 2 ^ n * m := by
      rw [hq, show (2 : Int) ^ n = ((2 ^ n : Nat) : Int) by rw [Int.natCast_pow]; rfl, ← Int.natCast_mul, Int.toNat_natCast, Nat.mul_comm]
    have hpn : p.toNat < 2 ^ n := by
      have : (p.toNat : Int) < ((2 ^ n : Nat) : Int) := by rw [show ((2 ^ n : Nat) : Int) = (2 : Int) ^ n by rw [Int.natCast_pow]; rfl]; omega
      omega
    rw [hqn, Nat.or_comm, ← Nat.two_pow_add_eq_or_of_lt hpn]; omega
  have h2 : ((p + q).toNat : Int) = p + q := by omega
  show (pure (Value.int .i64 (IntKind.i64.wrap ((BitVec.ofInt 64 p ||| BitVec.ofInt 64 q).toNat : Int))) : Sem Value).run P w = _; rw [e1, h2, Yq (n := p + q) (by omega) (by omega)]; rfl
def bl (n : Nat) : Nat := if n = 0 then 0 else Nat.log2 n + 1
def tabOk (s : ByteArray) : Bool := (List.range 256).all fun n => s[n]? == some (UInt8.ofNat (bl n))
theorem bl_lt {n : Nat} (h : n < 256) : bl n < 9 := by
  unfold bl; split
  · decide
  · rename_i h0
    have : Nat.log2 n < 8 := (Nat.log2_lt h0).2 (by omega); omega
theorem bl_spec (n : Nat) : n < 2 ^ bl n := by
  unfold bl; split
  · rename_i h; subst h; decide
  · exact Nat.lt_log2_self
theorem tab_at {s : ByteArray} (hs : tabOk s = true) {n : Nat} (h : n < 256) : s[n]? = some (UInt8.ofNat (bl n)) := by
  unfold tabOk at hs; rw [List.all_eq_true] at hs; exact eq_of_beq (hs n (List.mem_range.2 h))
theorem Ops.idxTab {s : ByteArray} {kk : IntKind} {j : Int} (m : Nat) (hg : gd ops L g = some true) (hx : ev L x = some (.ct (.ex (.string s)))) (hy : ev L y = some (.ct (.ex (.int kk j)))) (hu : X.P.underlying t = some .string) (hj : j = (m : Int)) (hm : m < 256) (hs : tabOk s = true) (hn : Nat.blt d X.n = true)
    (h : Ops X ops r ((d, .ct (.ex (.int .u8 (bl m)))) :: L) B K) : Ops X ops (.cons ⟨some d, .index t x y, t', pos, af, g⟩ k r) L B K := by
  refine Ops.idxS (b := UInt8.ofNat (bl m)) hg hx hy hu (by omega) (by subst hj; exact tab_at hs hm) hn ?_
  have : ((UInt8.ofNat (bl m)).toNat : Int) = (bl m : Int) := by
    have := bl_lt hm; rw [UInt8.toNat_ofNat']; omega
  rw [this]; exact h
end Go.Own
namespace Go.Limbs
def gs (h n t l s : Int) : Int := min 1073741823 ((h * 1073741824 * 1073741824 + n * 1073741824 + t) / (l * 1073741824 + s))
theorem gs_step {h n t l s q r : Int} (hl : 0 < l) (hs : 0 ≤ s) (hv : q * l + r = h * 1073741824 + n) (hg : gs h n t l s ≤ q)
    (hc : 1073741824 ≤ q ∨ r * 1073741824 + t < q * s) : gs h n t l s ≤ q - 1 := by
  unfold gs at *; rcases hc with hc | hc
  · omega
  · have hV : 0 < l * 1073741824 + s := by omega
    have e : q * (l * 1073741824 + s) = (q * l) * 1073741824 + q * s := by grind
    have : (h * 1073741824 * 1073741824 + n * 1073741824 + t) / (l * 1073741824 + s) < q := by
      apply Int.ediv_lt_of_lt_mul hV
      rw [e]
      have : q * l = h * 1073741824 + n - r := by omega
      rw [this]; omega
    omega
theorem gs_exit {h n t l s q r : Int} (hl : 0 < l) (hh : h ≤ l) (hn : n < 1073741824) (ht : 0 ≤ t) (hs : 0 ≤ s) (hs2 : s < 1073741824) (hq : 0 ≤ q) (hv : q * l + r = h * 1073741824 + n) (hg : gs h n t l s ≤ q)
    (hc : ¬ (r < 1073741824 ∧ (1073741824 ≤ q ∨ r * 1073741824 + t < q * s))) : q = gs h n t l s := by
  have hV : 0 < l * 1073741824 + s := by omega
  have e : q * (l * 1073741824 + s) = (q * l) * 1073741824 + q * s := by grind
  have e2 : q * l = h * 1073741824 + n - r := by omega
  have key : q ≤ 1073741823 ∧ q * (l * 1073741824 + s) ≤ h * 1073741824 * 1073741824 + n * 1073741824 + t := by
    by_cases hr : r < 1073741824
    · have : ¬ 1073741824 ≤ q ∧ ¬ r * 1073741824 + t < q * s := ⟨fun h => hc ⟨hr, .inl h⟩, fun h => hc ⟨hr, .inr h⟩⟩; refine ⟨by omega, ?_⟩; rw [e, e2]; omega
    · have hq2 : q ≤ 1073741823 := by
        by_cases h1 : q < 1073741824
        · omega
        · have : 1073741824 * l ≤ q * l := Int.mul_le_mul_of_nonneg_right (by omega) (by omega); omega
      refine ⟨hq2, ?_⟩; have : q * s ≤ 1073741823 * 1073741823 := Int.mul_le_mul hq2 (by omega) hs (by omega); rw [e, e2]; omega
  have : q ≤ (h * 1073741824 * 1073741824 + n * 1073741824 + t) / (l * 1073741824 + s) := (Int.le_ediv_iff_mul_le hV).2 key.2; unfold gs at *; omega
theorem gs_good {P h n t l s a b : Int} (hP : 0 < P) (ha : 0 ≤ a ∧ a < P) (hb : 0 ≤ b ∧ b < P) (hl : 0 < l) (hs : 0 ≤ s) (hh : 0 ≤ h) (hn : 0 ≤ n) (ht : 0 ≤ t)
    (hU : (h * 1073741824 * 1073741824 + n * 1073741824 + t) * P + a < ((l * 1073741824 + s) * P + b) * 1073741824) :
    0 ≤ gs h n t l s ∧ gs h n t l s ≤ 1073741823 ∧ (gs h n t l s - 1) * ((l * 1073741824 + s) * P + b) ≤ (h * 1073741824 * 1073741824 + n * 1073741824 + t) * P + a ∧
      (h * 1073741824 * 1073741824 + n * 1073741824 + t) * P + a < (gs h n t l s + 1) * ((l * 1073741824 + s) * P + b) := by
  have hV : 0 < l * 1073741824 + s := by omega
  have hV1 : 1073741824 ≤ l * 1073741824 + s := by omega
  have hU0 : 0 ≤ h * 1073741824 * 1073741824 + n * 1073741824 + t := by omega
  unfold gs; generalize h * 1073741824 * 1073741824 + n * 1073741824 + t = U3 at *; generalize l * 1073741824 + s = V2 at *; have d0 : 0 ≤ U3 / V2 := Int.ediv_nonneg hU0 (by omega); have d1 : U3 / V2 * V2 ≤ U3 := Int.ediv_mul_le _ (by omega); have d2 : U3 < (U3 / V2 + 1) * V2 := Int.lt_ediv_add_one_mul_self _ hV; generalize U3 / V2 = D at *; have hVP : 0 ≤ V2 * P := Int.mul_nonneg (by omega) (by omega); refine ⟨by omega, by omega, ?_, ?_⟩
  · have hg : min 1073741823 D ≤ D := by omega
    have hg0 : 0 ≤ min 1073741823 D := by omega
    have hg1 : min 1073741823 D ≤ 1073741823 := by omega
    generalize min 1073741823 D = G at *; have f1 : G * V2 ≤ D * V2 := Int.mul_le_mul_of_nonneg_right hg (by omega); have f2 : (G * V2) * P ≤ U3 * P := Int.mul_le_mul_of_nonneg_right (by omega) (by omega); have f3 : G * b ≤ G * P := Int.mul_le_mul_of_nonneg_left (by omega) hg0; have f4 : G * P ≤ V2 * P := Int.mul_le_mul_of_nonneg_right (by omega) (by omega)
    have f5 : (G - 1) * (V2 * P + b) = (G * V2) * P + G * b - V2 * P - b := by grind
    rw [f5]; omega
  · by_cases hD : D < 1073741823
    · have : min 1073741823 D = D := by omega
      rw [this]; have f1 : (U3 + 1) * P ≤ ((D + 1) * V2) * P := Int.mul_le_mul_of_nonneg_right (by omega) (by omega)
      have f2 : (D + 1) * (V2 * P + b) = ((D + 1) * V2) * P + (D + 1) * b := by grind
      have f3 : 0 ≤ (D + 1) * b := Int.mul_nonneg (by omega) hb.1; rw [f2]
      have f4 : (U3 + 1) * P = U3 * P + P := by grind
      omega
    · have : min 1073741823 D = 1073741823 := by omega
      rw [this]; omega
theorem pre_drop (xs : List Int) (j i : Nat) : pre xs (j + i) = pre xs j + BB ^ j * pre (xs.drop j) i := by
  induction i with
  | zero => rw [ZU]; simp
  | succ i ih =>
    rw [show j + (i + 1) = (j + i) + 1 by omega, Xa, ih, Xa]
    have : (xs.drop j).getD i 0 = xs.getD (j + i) 0 := by simp [List.getD_eq_getElem?_getD, List.getElem?_drop]
    rw [this, Int.pow_add]; grind
theorem getD_ge {xs : List Int} {i : Nat} (h : xs.length ≤ i) : xs.getD i 0 = 0 := by rw [List.getD_eq_getElem?_getD, List.getElem?_eq_none h]; rfl
theorem zero_above {xs : List Int} (h : OKL xs) {k : Nat} (hv : val xs < BB ^ k) (j : Nat) (hj : k ≤ j) : xs.getD j 0 = 0 := by
  rcases Nat.lt_or_ge j xs.length with hl | hl
  · have h1 : val xs = pre xs xs.length := (ZZ (Nat.le_refl _)).symm; obtain ⟨d, hd⟩ : ∃ d, xs.length = (j + 1) + d := ⟨xs.length - (j + 1), by omega⟩; rw [hd, pre_drop, Xa] at h1; have b1 := Y6 h j; have b2 := Y6 (h.drop (j + 1)) d; have b3 := h.get j; have p1 : 0 ≤ BB ^ (j + 1) * pre (xs.drop (j + 1)) d := Int.mul_nonneg (Int.le_of_lt (Int.pow_pos (by decide))) b2.1
    have p2 : BB ^ k ≤ BB ^ j := by
      obtain ⟨m, rfl⟩ : ∃ m, j = k + m := ⟨j - k, by omega⟩; rw [Int.pow_add]; have q1 : (1 : Int) ≤ BB ^ m := Int.pow_pos (by decide); have q2 : (0 : Int) ≤ BB ^ k := Int.le_of_lt (Int.pow_pos (by decide)); have := Int.mul_le_mul_of_nonneg_left q1 q2; omega
    by_cases h0 : 0 < xs.getD j 0
    · have p3 : 1 * BB ^ j ≤ xs.getD j 0 * BB ^ j := Int.mul_le_mul_of_nonneg_right h0 (Int.le_of_lt (Int.pow_pos (by decide))); omega
    · omega
  · exact getD_ge hl
theorem val_pre_of {xs : List Int} (h : OKL xs) {k : Nat} (hv : val xs < BB ^ k) : val xs = pre xs k := val_of_zeros (fun j hj => zero_above h hv j hj)
def shrL (by' : Nat) : List Int → List Int
  | [] => []
  | x :: xs => ((xs.getD 0 0 * 1073741824 + x) / 2 ^ by') % 1073741824 :: shrL by' xs
theorem shrL_len (k : Nat) (xs : List Int) : (shrL k xs).length = xs.length := by
  induction xs with
  | nil => rfl
  | cons x xs ih => simp [shrL, ih]
theorem shrL_get (k : Nat) (xs : List Int) (i : Nat) (h : i < xs.length) : (shrL k xs).getD i 0 = ((xs.getD (i + 1) 0 * 1073741824 + xs.getD i 0) / 2 ^ k) % 1073741824 := by
  induction xs generalizing i with
  | nil => simp at h
  | cons x xs ih =>
    cases i with
    | zero => simp [shrL]
    | succ i => simp only [shrL, List.getD_cons_succ]; exact ih i (by simpa using h)
theorem shrL_ok (k : Nat) (xs : List Int) : OKL (shrL k xs) := by
  induction xs with
  | nil => exact OKL.nil
  | cons x xs ih => exact OKL.cons (by simp only [BB]; omega) ih
theorem two_split {k : Nat} (hk : k ≤ 30) : (1073741824 : Int) = 2 ^ k * 2 ^ (30 - k) := by
  rw [← Int.pow_add, show k + (30 - k) = 30 by omega]; rfl
theorem ediv_mod_B {k : Nat} (hk : k ≤ 30) (x y z : Int) : ((x + 1073741824 * (y + 1073741824 * z)) / 2 ^ k) % 1073741824 = ((y * 1073741824 + x) / 2 ^ k) % 1073741824 := by
  have e := two_split hk
  have hp : (2 : Int) ^ k ≠ 0 := by have : (0 : Int) < 2 ^ k := Int.pow_pos (by decide); omega
  have : x + 1073741824 * (y + 1073741824 * z) = (y * 1073741824 + x) + (2 ^ (30 - k) * z * 1073741824) * 2 ^ k := by
    have : (1073741824 : Int) * (1073741824 * z) = (2 ^ (30 - k) * z * 1073741824) * 2 ^ k := by
      conv => lhs; rw [e]
      grind
    grind
  rw [this, Int.add_mul_ediv_right _ _ hp, Int.add_mul_emod_self_right]
theorem val_shrL {k : Nat} (hk : k ≤ 30) : ∀ (xs : List Int), OKL xs → val (shrL k xs) = val xs / 2 ^ k
  | [], _ => by simp [shrL, val]
  | x :: xs, h => by
    have ih := val_shrL hk xs h.tail
    have hx := h.head
    have hp : (0 : Int) < 2 ^ k := Int.pow_pos (by decide)
    have h1 : val xs = xs.getD 0 0 + 1073741824 * val xs.tail := by
      cases xs with
      | nil => simp [val]
      | cons y ys => simp [val, BB]
    simp only [shrL, val, ih, BB] at *; have e1 := ediv_mod_B hk x (xs.getD 0 0) (val xs.tail); rw [← h1] at e1; rw [← e1]
    have e2 : val xs / 2 ^ k = (x + 1073741824 * val xs) / 2 ^ k / 1073741824 := by
      rw [Int.ediv_ediv_of_nonneg (by omega), Int.mul_comm (2 ^ k) 1073741824, ← Int.ediv_ediv_of_nonneg (by omega), Int.mul_comm 1073741824, Int.add_mul_ediv_right _ _ (by decide), Int.ediv_eq_zero_of_lt hx.1 hx.2, Int.zero_add]
    rw [e2]; have := Int.emod_add_mul_ediv ((x + 1073741824 * val xs) / 2 ^ k) 1073741824; omega
end Go.Limbs
namespace Go.Proofs.YtdhmbgogmoaofaaGreat
open Go.Own Go.Limbs
attribute [local irreducible] St Ops Go.Own.Fin Ok
abbrev u64C (x : Int) : CT := .ex (.int .u64 x)
theorem uStr : Tryz.prog.underlying 9 = some .string := Tryz.underlying9
theorem uIntB : Tryz.prog.underlying 3 = some (.int .i64) := Tryz.underlying3
theorem uU8B : Tryz.prog.underlying 5 = some (.int .u8) := Tryz.underlying5
theorem uUintB : Tryz.prog.underlying 163 = some (.int .u64) := Tryz.underlying163
theorem uU64B : Tryz.prog.underlying 149 = some (.int .u64) := Tryz.underlying149
theorem wrap_u8 {n : Int} (h1 : 0 ≤ n) (h2 : n < 256) : IntKind.u8.wrap n = n := by
  rw [show IntKind.u8.wrap n = n % 256 by simp [IntKind.wrap, IntKind.bits, IntKind.signed]]; omega
def bln (n : Nat) : Nat := if 65536 ≤ n then (if 256 ≤ n / 65536 then 24 + bl (n / 65536 / 256) else 16 + bl (n / 65536)) else if 256 ≤ n then 8 + bl (n / 256) else bl n
theorem bln_spec {n : Nat} (h0 : 0 < n) (h : n < 1073741824) : 1 ≤ bln n ∧ bln n ≤ 30 ∧ n < 2 ^ bln n := by
  have pos : ∀ m, 0 < m → 1 ≤ bl m := fun m hm => by unfold bl; rw [if_neg (by omega)]; omega
  unfold bln; split
  · split
    · have h1 := bl_spec (n / 65536 / 256); have h2 := pos (n / 65536 / 256) (by omega)
      have h3 : bl (n / 65536 / 256) ≤ 6 := by
        unfold bl; rw [if_neg (by omega)]; have : Nat.log2 (n / 65536 / 256) < 6 := (Nat.log2_lt (by omega)).2 (by omega); omega
      refine ⟨by omega, by omega, ?_⟩; rw [Nat.pow_add]
      have : n < (n / 65536 / 256 + 1) * 16777216 := by omega
      exact Nat.lt_of_lt_of_le this (by rw [Nat.mul_comm]; exact Nat.mul_le_mul (by decide) h1)
    · have h1 := bl_spec (n / 65536); have h2 := pos (n / 65536) (by omega); have h3 := bl_lt (n := n / 65536) (by omega); refine ⟨by omega, by omega, ?_⟩; rw [Nat.pow_add]
      have : n < (n / 65536 + 1) * 65536 := by omega
      exact Nat.lt_of_lt_of_le this (by rw [Nat.mul_comm]; exact Nat.mul_le_mul (by decide) h1)
  · split
    · have h1 := bl_spec (n / 256); have h2 := pos (n / 256) (by omega); have h3 := bl_lt (n := n / 256) (by omega); refine ⟨by omega, by omega, ?_⟩; rw [Nat.pow_add]
      have : n < (n / 256 + 1) * 256 := by omega
      exact Nat.lt_of_lt_of_le this (by rw [Nat.mul_comm]; exact Nat.mul_le_mul (by decide) h1)
    · have h1 := bl_spec n; have h3 := bl_lt (n := n) (by omega); exact ⟨pos n h0, by omega, h1⟩
theorem goLen64 : InGo Tryz.prog 175 := InGo.of Tryz.func175 rfl (by decide)
set_option maxHeartbeats 2000000 in
theorem Len64_ok (n : Nat) (h1 : n < 1073741824) : Ok Tryz.prog 175 [u64C n] (intC (bln n)) := by
  refine Ok.enter Tryz.func175 J _ Tryz.ntmps175 J ?_
  intro S w; refine Qy (Qx fun K hK => ?_); refine Qv J J J (Qj (hK _ _ (Qz (Qy (Qy ?_))))); clear hK K; refine Qx (fun K hK => ?_); refine Qq J J J (Qw igeq J J J J (Qj (hK _ _ (Qz ?_)))); clear hK K; refine QK J (fun h => by exfalso; omega) (fun _ => ?_); refine QU (Qz (Qy (Qy (Qx fun K hK => ?_)))); refine Qq J J J (Qw igeq J J J J (Qj (hK _ _ (Qz ?_)))); clear hK K; refine QK J (fun ha => ?_) (fun ha => ?_)
  · refine Qy (Qx fun K hK => ?_); refine Qq J J J (Qw (ushr 16 J (by decide)) J J J J ?_); rw [show (n : Int) / 2 ^ 16 = ((n / 65536 : Nat) : Int) by omega]; refine Qv J J J (Qj (hK _ _ (Qz ?_))); clear hK K; refine Qx (fun K hK => ?_); refine Qq J J J (Qw (iadd (by omega) (by omega)) J J J J ?_); refine Qv J J J (Qj (hK _ _ (Qz (Qy (Qy ?_))))); clear hK K; refine Qx (fun K hK => ?_); refine Qq J J J (Qw igeq J J J J (Qj (hK _ _ (Qz ?_)))); clear hK K; refine QK J (fun hb => ?_) (fun hb => ?_)
    · refine Qy (Qx fun K hK => ?_); refine Qq J J J (Qw (ushr 8 J (by decide)) J J J J ?_); rw [show ((n / 65536 : Nat) : Int) / 2 ^ 8 = ((n / 65536 / 256 : Nat) : Int) by omega]; refine Qv J J J (Qj (hK _ _ (Qz ?_))); clear hK K; refine Qx (fun K hK => ?_); refine Qq J J J (Qw (iadd (by omega) (by omega)) J J J J ?_); refine Qv J J J (Qj (hK _ _ (Qz (Qy ?_)))); clear hK K; refine Qx (fun K hK => ?_); refine Qq J J J (Qq J J J ?_); have hb3 := bl_lt (n := n / 65536 / 256) (by omega)
      refine Yj (q := ((n / 65536 / 256 : Nat) : Int)) J J uU64B uU8B (wrap_u8 (by omega) (by omega)) J ?_
      refine Ops.idxTab (n / 65536 / 256) J J J uStr J (by omega) (by kernel_rfl) J ?_
      refine Yj (q := (bl (n / 65536 / 256) : Int)) J J uU8B uIntB (Yq (by omega) (by omega)) J ?_
      refine Qw (iadd (by omega) (by omega)) J J J J ?_
      refine Qv J J J (Qj (hK _ _ (Qz (Q2 ?_)))); clear hK K; refine Q1 [_] rfl (QZ J QX) (by unfold bln; rw [if_pos (by omega), if_pos (by omega)]; congr 2) J
    · refine QU (Qz (Qy (Qx fun K hK => ?_))); refine Qq J J J (Qq J J J ?_); have hb3 := bl_lt (n := n / 65536) (by omega)
      refine Yj (q := ((n / 65536 : Nat) : Int)) J J uU64B uU8B (wrap_u8 (by omega) (by omega)) J ?_
      refine Ops.idxTab (n / 65536) J J J uStr J (by omega) (by kernel_rfl) J ?_
      refine Yj (q := (bl (n / 65536) : Int)) J J uU8B uIntB (Yq (by omega) (by omega)) J ?_
      refine Qw (iadd (by omega) (by omega)) J J J J ?_
      refine Qv J J J (Qj (hK _ _ (Qz (Q2 ?_)))); clear hK K; refine Q1 [_] rfl (QZ J QX) (by unfold bln; rw [if_pos (by omega), if_neg (by omega)]; congr 2) J
  · refine QU (Qz (Qy (Qy (Qx fun K hK => ?_)))); refine Qq J J J (Qw igeq J J J J (Qj (hK _ _ (Qz ?_)))); clear hK K; refine QK J (fun hb => ?_) (fun hb => ?_)
    · refine Qy (Qx fun K hK => ?_); refine Qq J J J (Qw (ushr 8 J (by decide)) J J J J ?_); rw [show (n : Int) / 2 ^ 8 = ((n / 256 : Nat) : Int) by omega]; refine Qv J J J (Qj (hK _ _ (Qz ?_))); clear hK K; refine Qx (fun K hK => ?_); refine Qq J J J (Qw (iadd (by omega) (by omega)) J J J J ?_); refine Qv J J J (Qj (hK _ _ (Qz (Qy ?_)))); clear hK K; refine Qx (fun K hK => ?_); refine Qq J J J (Qq J J J ?_); have hb3 := bl_lt (n := n / 256) (by omega)
      refine Yj (q := ((n / 256 : Nat) : Int)) J J uU64B uU8B (wrap_u8 (by omega) (by omega)) J ?_
      refine Ops.idxTab (n / 256) J J J uStr J (by omega) (by kernel_rfl) J ?_
      refine Yj (q := (bl (n / 256) : Int)) J J uU8B uIntB (Yq (by omega) (by omega)) J ?_
      refine Qw (iadd (by omega) (by omega)) J J J J ?_
      refine Qv J J J (Qj (hK _ _ (Qz (Q2 ?_)))); clear hK K; refine Q1 [_] rfl (QZ J QX) (by unfold bln; rw [if_neg (by omega), if_pos (by omega)]; congr 2) J
    · refine QU (Qz (Qy (Qx fun K hK => ?_))); refine Qq J J J (Qq J J J ?_); have hb3 := bl_lt (n := n) (by omega)
      refine Yj (q := (n : Int)) J J uU64B uU8B (wrap_u8 (by omega) (by omega)) J ?_
      refine Ops.idxTab n J J J uStr J (by omega) (by kernel_rfl) J ?_
      refine Yj (q := (bl n : Int)) J J uU8B uIntB (Yq (by omega) (by omega)) J ?_
      refine Qw (iadd (by omega) (by omega)) J J J J ?_
      refine Qv J J J (Qj (hK _ _ (Qz (Q2 ?_)))); clear hK K; refine Q1 [_] rfl (QZ J QX) (by unfold bln; rw [if_neg (by omega), if_neg (by omega)]; exact congrArg intC (by omega)) J
theorem goLen : InGo Tryz.prog 167 := InGo.of Tryz.func167 rfl (by decide)
theorem Len_ok (n : Nat) (h1 : n < 1073741824) : Ok Tryz.prog 167 [u64C n] (intC (bln n)) := by
  refine Ok.enter Tryz.func167 J _ Tryz.ntmps167 J ?_
  intro S w; refine Qy (Qx fun K hK => ?_); refine Qv J J J (Qj (hK _ _ (Qz (Qy (XY J (QU (Qz (Qy ?_)))))))); clear hK K; refine Qx (fun K hK => ?_); refine Qq J J J (QQ goLen64 (Len64_ok n h1) J J J J (Qv J J J (Qj (hK _ _ (Qz (Q2 ?_)))))); clear hK K; refine Q1 [_] rfl (QZ J QX) J J
theorem goguess : InGo Tryz.prog 169 := InGo.of Tryz.func169 (by kernel_rfl) (by kernel_rfl)
set_option maxHeartbeats 4000000 in
theorem guess_ok (h n t l s : Int) (hh0 : 0 ≤ h) (hh : h ≤ l) (hl0 : 0 < l) (hl : l < 1073741824) (hn0 : 0 ≤ n) (hn : n < 1073741824) (ht0 : 0 ≤ t) (ht : t < 1073741824) (hs0 : 0 ≤ s) (hs : s < 1073741824) :
    Ok Tryz.prog 169 [intC h, intC n, intC t, intC l, intC s] (intC (gs h n t l s)) := by
  refine Ok.enter Tryz.func169 J _ Tryz.ntmps169 J ?_
  intro S w; refine Qy (Qx fun K hK => ?_); refine Qv J J J (Qj (hK _ _ (Qz (Qy ?_)))); clear hK K; refine Qx (fun K hK => ?_); refine Qq J J J (Qw (ishl30 (by omega) (by omega)) J J J J ?_); refine Qq J J J (Qw (ior30 (by omega) (by omega) (by omega) (by omega)) J J J J ?_); refine Qv J J J (Qj (hK _ _ (Qz (Qy ?_)))); clear hK K; refine Xv mixed 8 (.p 0 (.p 1 (.p 2 (.p 3 (.p 4 (.p 5 (.p 6 (.p 7 .done)))))))) (by kernel_rfl) (fun K hK => ?_); refine Qq J J J (Qq J J J (Qw (iquo (by omega) (by omega) (by omega)) J J J J ?_)); refine Qq J J J (Qq J J J (Qw (irem (by omega) (by omega)) J J J J ?_)); refine Qv J J J (Qv J J J (Qj (hK _ _ (Qz (Qy (Q0 ?_)))))); clear hK K; have e0 := Int.mul_ediv_add_emod (h * 1073741824 + n) l; have e1 := Int.emod_nonneg (h * 1073741824 + n) (b := l) (by omega); have e2 := Int.emod_lt_of_pos (h * 1073741824 + n) hl0; have e3 : 0 ≤ (h * 1073741824 + n) / l := Int.ediv_nonneg (by omega) (by omega)
  have e4 : (h * 1073741824 + n) / l ≤ 2147483648 := by
    have : (h * 1073741824 + n) / l < 2147483649 := by
      apply Int.ediv_lt_of_lt_mul hl0
      have : h * 1073741824 ≤ l * 1073741824 := Int.mul_le_mul_of_nonneg_right hh (by decide); omega
    omega
  have e5 : gs h n t l s ≤ (h * 1073741824 + n) / l := by
    unfold gs
    have : (h * 1073741824 * 1073741824 + n * 1073741824 + t) / (l * 1073741824 + s) < (h * 1073741824 + n) / l + 1 := by
      apply Int.ediv_lt_of_lt_mul (by omega)
      generalize (h * 1073741824 + n) / l = q at *
      have f1 : (q + 1) * (l * 1073741824 + s) = (l * q) * 1073741824 + l * 1073741824 + (q + 1) * s := by grind
      have f2 : 0 ≤ (q + 1) * s := Int.mul_nonneg (by omega) hs0; rw [f1]; omega
    omega
  generalize (h * 1073741824 + n) / l = q0 at *; generalize (h * 1073741824 + n) % l = r0 at *
  refine Xq (α := Int × Int) (fun p => 0 ≤ p.1 ∧ p.1 ≤ 2147483648 ∧ 0 ≤ p.2 ∧ p.2 < 2147483648 ∧ p.1 * l + p.2 = h * 1073741824 + n ∧ gs h n t l s ≤ p.1)
    (fun p => [(2, .ct (intC t)), (3, .ct (intC l)), (4, .ct (intC s)), (12, .ct (intC p.1)), (13, .ct (intC p.2))]) (fun _ => []) (fun p => (1073741824 - p.2).toNat) (q0, r0)
    ⟨e3, e4, e1, by dsimp only; omega, by rw [Int.mul_comm]; exact e0, e5⟩ (by exact Qu J ⟨rfl, rfl, rfl, rfl, rfl, trivial⟩) ?_
  rintro ⟨q, r⟩ ⟨hq0, hq1, hr0, hr1, hv, hg⟩
  dsimp only at hq0 hq1 hr0 hr1 hv hg ⊢
  have hqs : 0 ≤ q * s ∧ q * s ≤ 2305843009213693952 := ⟨Int.mul_nonneg hq0 hs0, by
    have : q * s ≤ 2147483648 * 1073741824 := Int.mul_le_mul hq1 (by omega) hs0 (by decide)
    omega⟩
  have stop : ¬ (r < 1073741824 ∧ (1073741824 ≤ q ∨ r * 1073741824 + t < q * s)) → q = gs h n t l s := fun hc => gs_exit hl0 hh hn ht0 hs0 hs hq0 hv hg hc
  have go : r < 1073741824 → (1073741824 ≤ q ∨ r * 1073741824 + t < q * s) → gs h n t l s ≤ q - 1 := fun _ hc => gs_step hl0 hs0 hv hg hc
  have hv' : (q - 1) * l + (r + l) = h * 1073741824 + n := by rw [Int.sub_mul]; omega
  have gs0 : 0 ≤ gs h n t l s := by
    unfold gs; have : 0 ≤ (h * 1073741824 * 1073741824 + n * 1073741824 + t) / (l * 1073741824 + s) := Int.ediv_nonneg (by omega) (by omega); omega
  refine Qy (Qy (Qx fun K hK => ?_)); refine Qq J J J (Qw ilss J J J J (Qq J J J (Qp 26 J (fun h1 => ?_) (fun h1 => ?_))))
  · refine Qq J J J (Qw igeq J J J J (Qq J J J (Qp 29 J (fun h2 => ?_) (fun h2 => ?_))))
    · refine Qk J J J (Qk J J J (Qk J J J (Qk J J J (Qk J J J (Qk J J J (Qk J J J (Qk J J J (Qc J J J J (Qc J J J J (Qj (hK _ _ (Qz (XU J (QU (Qz (Q0 ?_)))))))))))))))); clear hK K; refine Qx (fun K hK => ?_); refine Qq J J J (Qw (isub (by omega) (by omega)) J J J J ?_); refine Qq J J J (Qq J J J (Qw (iadd (by omega) (by omega)) J J J J ?_)); refine Qv J J J (Qv J J J (Qj (hK _ _ (X6 (Q4 ?_))))); clear hK K; have hg' := go h1 (.inl h2); refine Qb (q - 1, r + l) (by dsimp only; omega) ⟨by dsimp only; omega, by dsimp only; omega, by dsimp only; omega, by dsimp only; omega, hv', hg'⟩ (by exact Qu J ⟨rfl, rfl, rfl, rfl, rfl, trivial⟩)
    · refine Qq J J J (Qq J J J (Qw (imul (by omega) (by omega)) J J J J ?_)); refine Qq J J J (Qw (ishl30 (by omega) (by omega)) J J J J ?_); refine Qq J J J (Qw (ior30 (by omega) (by omega) (by omega) (by omega)) J J J J ?_); refine Qw igtr J J J J (Q6 J J J J (Qc J J J J (Qj (hK _ _ (Qz ?_))))); clear hK K; refine QK J (fun h3 => ?_) (fun h3 => ?_)
      · refine QU (Qz (Q0 (Qx fun K hK => ?_))); refine Qq J J J (Qw (isub (by omega) (by omega)) J J J J ?_); refine Qq J J J (Qq J J J (Qw (iadd (by omega) (by omega)) J J J J ?_)); refine Qv J J J (Qv J J J (Qj (hK _ _ (X6 (Q4 ?_))))); clear hK K; have hg' := go h1 (.inr h3); refine Qb (q - 1, r + l) (by dsimp only; omega) ⟨by dsimp only; omega, by dsimp only; omega, by dsimp only; omega, by dsimp only; omega, hv', hg'⟩ (by exact Qu J ⟨rfl, rfl, rfl, rfl, rfl, trivial⟩)
      · have e := stop (fun hc => by rcases hc.2 with hc | hc <;> omega); refine Qr (Qz (Qy (Qx fun K hK => ?_))); refine Qq J J J (Qv J J J (Qj (hK _ _ (Qz (Q2 ?_))))); clear hK K; refine Q1 [_] rfl (QZ J QX) (by rw [e]; rfl) J
  · have e := stop (fun hc => h1 hc.1); refine Qk J J J (Qk J J J (Qk J J J (Qk J J J (Qk J J J (Qk J J J (Qk J J J (Qk J J J (Qk J J J (Qk J J J (Qk J J J (Qk J J J (Q6 J J J J (Qj (hK _ _ (Qz (XY J (Qr (Qz (Qy ?_))))))))))))))))))); clear hK K; refine Qx (fun K hK => ?_); refine Qq J J J (Qv J J J (Qj (hK _ _ (Qz (Q2 ?_))))); clear hK K; refine Q1 [_] rfl (QZ J QX) (by rw [e]; rfl) J
attribute [local irreducible] OkF
theorem goshifted : InGo Tryz.prog 168 := InGo.of Tryz.func168 (by kernel_rfl) (by kernel_rfl)
def shl (xs : List Int) (k : Nat) : List Int := (limbs ((val xs).toNat * 2 ^ k)) ++ List.replicate (xs.length + 1 - (limbs ((val xs).toNat * 2 ^ k)).length) 0
theorem limbs_unique {xs ys : List Int} (hx : OKL xs) (hy : OKL ys) (hl : xs.length = ys.length) (hv : val xs = val ys) : xs = ys := by
  induction xs generalizing ys with
  | nil => exact (List.eq_nil_of_length_eq_zero hl.symm).symm
  | cons x xs ih =>
    cases ys with
    | nil => simp at hl
    | cons y ys =>
      have a := hx.head; have b := hy.head; simp only [val, BB] at *
      have e : x = y ∧ val xs = val ys := by omega
      rw [e.1, ih hx.tail hy.tail (by simpa using hl) e.2]
set_option maxHeartbeats 4000000 in
theorem shifted_ok (xs : List Int) (k : Nat) (hk : k ≤ 30) (hok : OKL xs) (hl : xs.length ≤ 256) : OkF Tryz.prog 168 [intsC xs, intC k] 3 1 (ints (shl xs k)) := by
  have hpk : (0 : Int) < 2 ^ k := Int.pow_pos (by decide)
  have hpk30 : (2 : Int) ^ k ≤ 1073741824 := by
    have e := two_split hk; have : (1 : Int) ≤ 2 ^ (30 - k) := Int.pow_pos (by decide); have := Int.mul_le_mul_of_nonneg_left this (Int.le_of_lt hpk); omega
  refine OkF.enter Tryz.func168 J _ Tryz.ntmps168 J ?_
  intro S w; refine Qy (Qx fun K hK => ?_); refine Qv J J J (Qj (hK _ _ (Qz (Qy ?_)))); clear hK K; refine Qx (fun K hK => ?_); refine Qq J J J (Q7 J J sNat.und (List.length_map ..) J (Qw (iadd (by omega) (by omega)) J J J J ?_))
  refine Z5 0 (xs.length + 1) J J J (by omega) sNat (by omega) (by omega) J J J ?_
  rw [ints_made]; refine Qv J J J (Qj (hK _ _ (Qz (Qy (Qy ?_))))); clear hK K; refine Qx (fun K hK => ?_); refine Qq J J J (Q7 J J sNat.und (List.length_map ..) J (Qq J J J (Qj (hK _ _ (Qz (Q0 ?_)))))); clear hK K
  refine Xq (α := Nat × List Int) (fun s => s.1 ≤ xs.length ∧ s.2.length = xs.length + 1 ∧ OKL s.2 ∧ (∀ j, s.1 < j → s.2.getD j 0 = 0) ∧ s.2.getD s.1 0 < 2 ^ k ∧ val s.2 = pre xs s.1 * 2 ^ k)
    (fun s => [(0, .ct (intsC xs)), (1, .ct (intC k)), (5, .own 0), (13, .ct (intsC xs)), (14, .ct (intC xs.length)), (15, .ct (intC s.1))])
    (fun s => [(0, .row 3 1 (ints s.2))]) (fun s => xs.length - s.1) (0, List.replicate (xs.length + 1) 0) ⟨Nat.zero_le _, by simp, OKL.zeros _, ?_, ?_, ?_⟩ (by exact Qu J ⟨rfl, rfl, rfl, rfl, rfl, rfl, trivial⟩) ?_
  · intro j _; simp [List.getD_eq_getElem?_getD, List.getElem?_replicate]; split <;> rfl
  · have : (List.replicate (xs.length + 1) (0 : Int)).getD 0 0 = 0 := by simp [List.getD_eq_getElem?_getD]
    dsimp only; rw [this]; exact hpk
  · dsimp only; rw [Yb, ZU]; simp
  rintro ⟨i, zs⟩ ⟨hi, hzl, hzok, hz, hzi, hv⟩
  dsimp only at hi hzl hzok hz hzi hv ⊢; refine Qy (Qx fun K hK => ?_); refine Qw ilss J J J J (Qj (hK _ _ (Qz (Qy ?_)))); clear hK K; refine QK J (fun h => ?_) (fun h => ?_)
  · have bx := hok.get i; have bz := hzok.get i; simp only [BB] at bx bz; have eix : (i : Int).toNat = i := Int.toNat_natCast i
    have e1 : (i : Int).toNat * 1 = i := by omega
    have e2 : ((i : Int) + 1).toNat * 1 = i + 1 := by omega
    have bs : 0 ≤ xs.getD i 0 * 2 ^ k ∧ xs.getD i 0 * 2 ^ k ≤ 1152921503533105152 := ⟨Int.mul_nonneg bx.1 (by omega), by
      have : xs.getD i 0 * 2 ^ k ≤ 1073741823 * 1073741824 := Int.mul_le_mul (by omega) hpk30 (by omega) (by omega)
      omega⟩
    refine QU (Qz (Qy (Q0 (Qy (Qx fun K hK => ?_))))); refine Qq J J J (Qh J J J sNat (by omega) (X3 (by omega) (by omega)) J ?_); refine Xz J J J lInt J (Qv J J J (Qv J J J (Qj (hK _ _ (Qz (Qy ?_)))))); clear hK K; refine Qx (fun K hK => ?_); refine Qq J J J (Qq J J J ?_); rw [eix]; skip
    refine Qw (ishl k J (by omega) (by omega) (by omega)) J J J J ?_
    refine Qv J J J (Qj (hK _ _ (Qz (Qy ?_)))); clear hK K; refine Qx (fun K hK => ?_); refine Qq J J J (Qq J J J (Xu (xs.length + 1) J J J (by simp; omega) J sNat (by omega) (by omega) J ?_)); rw [e1]
    refine QJ J J J J (Xi (by omega)) lInt J ?_
    refine Qq J J J ?_
    have dvd : ∃ m : Nat, xs.getD i 0 * 2 ^ k % 1073741824 = (m : Int) * 2 ^ k := by
      have h1 : (xs.getD i 0 % 2 ^ (30 - k)) * 2 ^ k = xs.getD i 0 * 2 ^ k % 1073741824 := by
        rw [two_split hk, Int.mul_comm (xs.getD i 0), Int.mul_emod_mul_of_pos _ _ hpk, Int.mul_comm]
      have h2 : 0 ≤ xs.getD i 0 % 2 ^ (30 - k) := Int.emod_nonneg _ (by have : (0 : Int) < 2 ^ (30 - k) := Int.pow_pos (by decide); omega); exact ⟨(xs.getD i 0 % 2 ^ (30 - k)).toNat, by rw [← h1]; congr 1; omega⟩
    obtain ⟨m, hm⟩ := dvd
    have hmod : zs.getD i 0 + xs.getD i 0 * 2 ^ k % 1073741824 < 1073741824 := by
      rw [hm]; have e := two_split hk
      have hmk : (m : Int) * 2 ^ k < 2 ^ (30 - k) * 2 ^ k := by rw [← hm, Int.mul_comm (2 ^ (30 - k)), ← e]; omega
      have hm2 : (m : Int) < 2 ^ (30 - k) := Int.lt_of_mul_lt_mul_right hmk (by omega); have : ((m : Int) + 1) * 2 ^ k ≤ 2 ^ (30 - k) * 2 ^ k := Int.mul_le_mul_of_nonneg_right (by omega) (by omega); rw [Int.add_mul, Int.one_mul, Int.mul_comm (2 ^ (30 - k)), ← e] at this; omega
    refine Qw iand30 J J J J (Qw (ior_add k m bz.1 hzi hm (by omega)) J J J J ?_); skip
    refine Xu (xs.length + 1) J J J (by simp; omega) J sNat (by omega) (by omega) J ?_
    rw [e1]
    refine Qn J J J J J zInt (by simp [Ent.cs]; omega) ?_
    simp only [Ent.setc, ZY]; refine Qj (hK _ _ (Qz ?_)); clear hK K; refine Qx (fun K hK => ?_); refine Qq J J J (Qq J J J (Qw (iadd (by omega) (by omega)) J J J J ?_)); refine Qq J J J (Qw ishr30 J J J J ?_); skip
    refine Xu (xs.length + 1) J J J (by simp; omega) J sNat (by omega) (by omega) J ?_
    rw [e2]
    refine Qn J J J J J zInt (by simp [Ent.cs]; omega) ?_
    simp only [Ent.setc, ZY]; refine Qj (hK _ _ (Qz ?_)); clear hK K; refine Qx (fun K hK => ?_)
    refine Qw (iadd (by omega) (by omega)) J J J J ?_
    refine Qq J J J (Qj (hK _ _ (Q4 ?_))); clear hK K
    have hq : xs.getD i 0 * 2 ^ k / 1073741824 < 2 ^ k := by
      apply Int.ediv_lt_of_lt_mul (by decide)
      rw [Int.mul_comm]; exact Int.mul_lt_mul_of_pos_left (by omega) hpk
    refine Qb (i + 1, (zs.set i (zs.getD i 0 + xs.getD i 0 * 2 ^ k % 1073741824)).set (i + 1) (xs.getD i 0 * 2 ^ k / 1073741824)) (by dsimp only; omega) ⟨by dsimp only; omega, by simp [hzl], ?_, ?_, ?_, ?_⟩ (by exact Qu J ⟨rfl, rfl, rfl, rfl, rfl, by simp only [Int.natCast_add]; rfl, trivial⟩)
    all_goals dsimp only
    · exact (hzok.set _ (by simp only [BB]; omega)).set _ (by simp only [BB]; omega)
    · intro j hj; rw [getD_set (by simp; omega), if_neg (by omega), getD_set (by omega), if_neg (by omega)]; exact hz j (by omega)
    · rw [getD_set (by simp; omega), if_pos J]; exact hq
    · rw [Jz (by simp; omega), Jz (by omega), getD_set (by omega), if_neg (by omega), hz (i + 1) (by omega), Xa, hv, Int.pow_succ]; have e := Int.mul_ediv_add_emod (xs.getD i 0 * 2 ^ k) 1073741824; simp only [BB] at *; generalize xs.getD i 0 * 2 ^ k / 1073741824 = Q at *; generalize xs.getD i 0 * 2 ^ k % 1073741824 = M at *; generalize (1073741824 : Int) ^ i = I at *
      grind
  · have hi' : i = xs.length := by omega
    have hv2 : val zs = val xs * 2 ^ k := by rw [hv, hi', ZZ (Nat.le_refl _)]
    have hvx := Ya hok
    have e2k : ((2 ^ k : Nat) : Int) = (2 : Int) ^ k := by rw [Int.natCast_pow]; rfl
    have hn : ((val xs).toNat * 2 ^ k : Nat) = (val zs).toNat := by
      rw [hv2]
      have : (((val xs).toNat * 2 ^ k : Nat) : Int) = val xs * 2 ^ k := by rw [Int.natCast_mul, e2k, Int.toNat_of_nonneg hvx]
      omega
    have hzs : zs = shl xs k := by
      unfold shl; rw [hn]
      have hlen : (limbs (val zs).toNat).length ≤ xs.length + 1 := by rw [← Zu hzok, ← hzl]; exact trim_len _
      have hvz := Ya hzok
      refine limbs_unique hzok ((X2 _).append (OKL.zeros _)) (by simp; omega) ?_
      rw [YV, Yb, Xf]; omega
    subst hzs; refine Qr (Qz (Qy (Qx fun K hK => ?_))); refine Qq J J J (Qv J J J (Qj (hK _ _ (Qz (Q2 ?_))))); clear hK K; refine Fin.retF J J J J
theorem shl_val (xs : List Int) (k : Nat) (hok : OKL xs) : val (shl xs k) = val xs * 2 ^ k := by
  unfold shl; rw [YV, Yb, Xf, Int.natCast_mul, Int.toNat_of_nonneg (Ya hok), Int.natCast_pow]; simp
theorem shl_ok (xs : List Int) (k : Nat) : OKL (shl xs k) := (X2 _).append (OKL.zeros _)
theorem shl_len (xs : List Int) (k : Nat) (hk : k ≤ 30) (hok : OKL xs) : (shl xs k).length = xs.length + 1 := by
  unfold shl
  have : (limbs ((val xs).toNat * 2 ^ k)).length ≤ xs.length + 1 := by
    apply Qg
    rw [Nat.pow_succ]
    have h1 : val xs < BB ^ xs.length := by have := Y6 hok xs.length; rw [ZZ (Nat.le_refl _)] at this; exact this.2
    have h2 : (val xs).toNat < 1073741824 ^ xs.length := by
      have := Ya hok
      have e : ((1073741824 ^ xs.length : Nat) : Int) = BB ^ xs.length := by rw [Int.natCast_pow]; rfl
      omega
    have h3 : 2 ^ k ≤ 1073741824 := by
      have : 2 ^ k ≤ 2 ^ 30 := Nat.pow_le_pow_right (by decide) hk; omega
    have h4 : 0 < 2 ^ k := Nat.pow_pos (by decide)
    calc (val xs).toNat * 2 ^ k < 1073741824 ^ xs.length * 2 ^ k := Nat.mul_lt_mul_of_pos_right h2 h4
      _ ≤ _ := Nat.mul_le_mul_left _ h3
  simp; omega
end Go.Proofs.YtdhmbgogmoaofaaGreat
namespace Go.Limbs
theorem getD_drop (xs : List Int) (j i : Nat) : (xs.drop j).getD i 0 = xs.getD (j + i) 0 := by simp [List.getD_eq_getElem?_getD, List.getElem?_drop]
theorem Bpos (k : Nat) : (0 : Int) < BB ^ k := Int.pow_pos (by decide)
theorem win {us vs : List Int} {n j : Nat} (hu : OKL us) (hv : OKL vs) (hn : 2 ≤ n) (hvl : vs.length = n + 1) (htop : vs.getD n 0 = 0) (hld : 0 < vs.getD (n - 1) 0) (hA : val us < val vs * BB ^ (j + 1)) :
    us.getD (j + n) 0 ≤ vs.getD (n - 1) 0 ∧ 0 ≤ gs (us.getD (j + n) 0) (us.getD (j + n - 1) 0) (us.getD (j + n - 2) 0) (vs.getD (n - 1) 0) (vs.getD (n - 2) 0) ∧
    gs (us.getD (j + n) 0) (us.getD (j + n - 1) 0) (us.getD (j + n - 2) 0) (vs.getD (n - 1) 0) (vs.getD (n - 2) 0) ≤ 1073741823 ∧
    (gs (us.getD (j + n) 0) (us.getD (j + n - 1) 0) (us.getD (j + n - 2) 0) (vs.getD (n - 1) 0) (vs.getD (n - 2) 0) - 1) * val vs * BB ^ j ≤ val us ∧
    val us < (gs (us.getD (j + n) 0) (us.getD (j + n - 1) 0) (us.getD (j + n - 2) 0) (vs.getD (n - 1) 0) (vs.getD (n - 2) 0) + 1) * val vs * BB ^ j ∧
    (∀ p, j + n + 1 ≤ p → us.getD p 0 = 0) ∧ 0 < val vs ∧ val vs < BB ^ n := by
  obtain ⟨m, rfl⟩ : ∃ m, n = m + 2 := ⟨n - 2, by omega⟩
  have e1 : m + 2 - 1 = m + 1 := by omega
  have e2 : m + 2 - 2 = m := by omega
  have e3 : j + (m + 2) - 1 = j + (m + 1) := by omega
  have e4 : j + (m + 2) - 2 = j + m := by omega
  rw [e1] at hld ⊢; rw [e2, e3, e4]; have v1 : val vs = pre vs (m + 3) := (ZZ (by omega)).symm
  have v2 : val vs = (vs.getD (m + 1) 0 * 1073741824 + vs.getD m 0) * BB ^ m + pre vs m := by
    rw [v1, show m + 3 = (m + 2) + 1 by omega, Xa, htop, show m + 2 = (m + 1) + 1 by omega, Xa, Xa, Int.pow_succ]; simp only [BB]; grind
  have b1 := Y6 hv m; have b2 := hv.get (m + 1); have b3 := hv.get m
  have vlt : val vs < BB ^ (m + 2) := by
    have := Y6 hv (m + 2); rw [v1, show m + 3 = (m + 2) + 1 by omega, Xa, htop]; omega
  have vpos : 0 < val vs := by
    rw [v2]; have : 0 < (vs.getD (m + 1) 0 * 1073741824 + vs.getD m 0) * BB ^ m := Int.mul_pos (by omega) (Bpos m); omega
  have ult : val us < BB ^ (j + (m + 2) + 1) := by
    have h1 : val vs * BB ^ (j + 1) < BB ^ (m + 2) * BB ^ (j + 1) := Int.mul_lt_mul_of_pos_right vlt (Bpos _); rw [← Int.pow_add, show m + 2 + (j + 1) = j + (m + 2) + 1 by omega] at h1; omega
  have uz := fun p hp => zero_above hu ult p hp
  have u1 : val us = pre us j + BB ^ j * pre (us.drop j) (m + 3) := by
    rw [val_pre_of hu ult, show j + (m + 2) + 1 = j + (m + 3) by omega, pre_drop]
  have u2 : pre (us.drop j) (m + 3) = (us.getD (j + (m + 2)) 0 * 1073741824 * 1073741824 + us.getD (j + (m + 1)) 0 * 1073741824 + us.getD (j + m) 0) * BB ^ m + pre (us.drop j) m := by
    rw [show m + 3 = (m + 2) + 1 by omega, Xa, show m + 2 = (m + 1) + 1 by omega, Xa, Xa, Int.pow_succ, Int.pow_succ, getD_drop, getD_drop, getD_drop]; simp only [BB]; grind
  have c0 := Y6 hu j; have c1 := Y6 (hu.drop j) m; have c2 := hu.get (j + (m + 2)); have c3 := hu.get (j + (m + 1)); have c4 := hu.get (j + m); have pj := Bpos j
  have hUV : pre (us.drop j) (m + 3) < val vs * 1073741824 := by
    have h1 : BB ^ j * pre (us.drop j) (m + 3) < BB ^ j * (val vs * 1073741824) := by
      have : val vs * BB ^ (j + 1) = BB ^ j * (val vs * 1073741824) := by rw [Int.pow_succ]; simp only [BB]; grind
      omega
    exact Int.lt_of_mul_lt_mul_left h1 (by omega)
  have hi : us.getD (j + (m + 2)) 0 ≤ vs.getD (m + 1) 0 := by
    have h1 : us.getD (j + (m + 2)) 0 * (1073741824 * 1073741824 * BB ^ m) ≤ pre (us.drop j) (m + 3) := by
      rw [u2]; have : 0 ≤ (us.getD (j + (m + 1)) 0 * 1073741824 + us.getD (j + m) 0) * BB ^ m := Int.mul_nonneg (by omega) (by have := Bpos m; omega)
      have e : (us.getD (j + (m + 2)) 0 * 1073741824 * 1073741824 + us.getD (j + (m + 1)) 0 * 1073741824 + us.getD (j + m) 0) * BB ^ m = us.getD (j + (m + 2)) 0 * (1073741824 * 1073741824 * BB ^ m) + (us.getD (j + (m + 1)) 0 * 1073741824 + us.getD (j + m) 0) * BB ^ m := by grind
      omega
    have h2 : val vs * 1073741824 < (vs.getD (m + 1) 0 + 1) * (1073741824 * 1073741824 * BB ^ m) := by
      rw [v2]
      have e : (vs.getD (m + 1) 0 + 1) * (1073741824 * 1073741824 * BB ^ m) = ((vs.getD (m + 1) 0 * 1073741824 + 1073741824) * BB ^ m) * 1073741824 := by grind
      rw [e]; have : (vs.getD (m + 1) 0 * 1073741824 + vs.getD m 0 + 1) * BB ^ m ≤ (vs.getD (m + 1) 0 * 1073741824 + 1073741824) * BB ^ m := Int.mul_le_mul_of_nonneg_right (by simp only [BB] at b3; omega) (by have := Bpos m; omega)
      have e5 : (vs.getD (m + 1) 0 * 1073741824 + vs.getD m 0 + 1) * BB ^ m = (vs.getD (m + 1) 0 * 1073741824 + vs.getD m 0) * BB ^ m + BB ^ m := by grind
      omega
    have h3 : us.getD (j + (m + 2)) 0 * (1073741824 * 1073741824 * BB ^ m) < (vs.getD (m + 1) 0 + 1) * (1073741824 * 1073741824 * BB ^ m) := by omega
    have h4 : (0 : Int) ≤ 1073741824 * 1073741824 * BB ^ m := by have := Bpos m; omega
    have := Int.lt_of_mul_lt_mul_right h3 h4; omega
  have G := gs_good (P := BB ^ m) (h := us.getD (j + (m + 2)) 0) (n := us.getD (j + (m + 1)) 0) (t := us.getD (j + m) 0) (l := vs.getD (m + 1) 0) (s := vs.getD m 0) (a := pre (us.drop j) m) (b := pre vs m)
    (Bpos m) c1 b1 hld b3.1 c2.1 c3.1 c4.1 (by rw [← u2, ← v2]; exact hUV)
  rw [← u2, ← v2] at G; generalize gs (us.getD (j + (m + 2)) 0) (us.getD (j + (m + 1)) 0) (us.getD (j + m) 0) (vs.getD (m + 1) 0) (vs.getD m 0) = gg at *; obtain ⟨g1, g2, g3, g4⟩ := G; generalize pre (us.drop j) (m + 3) = U at *; refine ⟨hi, g1, g2, ?_, ?_, uz, vpos, vlt⟩
  · have := Int.mul_le_mul_of_nonneg_right g3 (Int.le_of_lt pj); rw [u1, Int.mul_comm (BB ^ j)]; omega
  · have : (U + 1) * BB ^ j ≤ (gg + 1) * val vs * BB ^ j := Int.mul_le_mul_of_nonneg_right (by omega) (Int.le_of_lt pj); rw [Int.add_mul, Int.one_mul] at this; rw [u1, Int.mul_comm (BB ^ j)]; omega
structure Win (us vs : List Int) (j : Nat) (f : Int) (lo hi : Int) (i : Nat) (zs : List Int) (c : Int) : Prop where
  len : zs.length = us.length
  ok : OKL zs
  same : ∀ p, p < j ∨ j + i ≤ p → zs.getD p 0 = us.getD p 0
  lo : lo ≤ c
  hi : c ≤ hi
  value : val zs + c * BB ^ (j + i) = val us + f * pre vs i * BB ^ j
theorem Win.zero {us vs : List Int} {j : Nat} {f lo hi : Int} (hu : OKL us) (h1 : lo ≤ 0) (h2 : 0 ≤ hi) : Win us vs j f lo hi 0 us 0 :=
  ⟨rfl, hu, fun _ _ => rfl, h1, h2, by rw [ZU]; simp⟩
theorem Win.step {us vs : List Int} {j : Nat} {f lo hi : Int} {i : Nat} {zs : List Int} {c : Int} (h : Win us vs j f lo hi i zs c) (hl : j + i < us.length)
    (h1 : lo ≤ (zs.getD (j + i) 0 + f * vs.getD i 0 + c) / 1073741824) (h2 : (zs.getD (j + i) 0 + f * vs.getD i 0 + c) / 1073741824 ≤ hi) :
    Win us vs j f lo hi (i + 1) (zs.set (j + i) ((zs.getD (j + i) 0 + f * vs.getD i 0 + c) % 1073741824)) ((zs.getD (j + i) 0 + f * vs.getD i 0 + c) / 1073741824) := by
  have hlz : j + i < zs.length := by rw [h.len]; exact hl
  refine ⟨by simp [h.len], h.ok.set _ (by simp only [BB]; omega), fun p hp => ?_, h1, h2, ?_⟩
  · rw [getD_set hlz, if_neg (by omega)]; exact h.same p (by omega)
  · have hv := h.value; have e := Int.mul_ediv_add_emod (zs.getD (j + i) 0 + f * vs.getD i 0 + c) 1073741824; rw [Jz hlz, Xa, show j + (i + 1) = j + i + 1 by omega, Int.pow_succ, Int.pow_add]; rw [Int.pow_add] at hv; simp only [BB] at *; generalize (zs.getD (j + i) 0 + f * vs.getD i 0 + c) / 1073741824 = Q at *; generalize (zs.getD (j + i) 0 + f * vs.getD i 0 + c) % 1073741824 = M at *; generalize (1073741824 : Int) ^ i = I at *; generalize (1073741824 : Int) ^ j = J at *; generalize zs.getD (j + i) 0 = z at *; generalize vs.getD i 0 = y at *; generalize pre vs i = pv at *; generalize val zs = vz at *; generalize val us = vu at *
    grind
theorem Win.lt {us vs : List Int} {j n : Nat} {f lo hi : Int} {zs : List Int} {c : Int} (h : Win us vs j f lo hi (n + 1) zs c) (hz : ∀ p, j + n + 1 ≤ p → us.getD p 0 = 0) : 0 ≤ val zs ∧ val zs < BB ^ (j + n + 1) := by
  have : val zs = pre zs (j + n + 1) := val_of_zeros (fun p hp => by rw [h.same p (by omega)]; exact hz p hp); rw [this]; exact Y6 h.ok _
theorem sub_done {V J W R c z : Int} (hW : V * J < W) (hlo : -(V * J) ≤ R) (hhi : R < V * J) (hz0 : 0 ≤ z) (hzW : z < W) (hc : c ≤ 0) (he : z + c * W = R) :
    (¬ c < 0 → z = R) ∧ (c < 0 → z = R + W ∧ R < 0) := by
  refine ⟨fun h => ?_, fun h => ?_⟩
  · have : c = 0 := by omega
    subst this; omega
  · have h1 : c = -1 := by
      by_cases h2 : c ≤ -2
      · have : c * W ≤ -2 * W := Int.mul_le_mul_of_nonneg_right h2 (by omega); omega
      · omega
    subst h1; omega
theorem add_done {V W R c z : Int} (hW : V < W) (hlo : -V ≤ R) (hhi : R < 0) (hz0 : 0 ≤ z) (hzW : z < W) (he : z + c * W = (R + W) + V) : z = R + V := by
  have h1 : c = 1 := by
    by_cases h2 : c ≤ 0
    · have : c * W ≤ 0 * W := Int.mul_le_mul_of_nonneg_right h2 (by omega); omega
    · by_cases h3 : 2 ≤ c
      · have : 2 * W ≤ c * W := Int.mul_le_mul_of_nonneg_right h3 (by omega); omega
      · omega
  subst h1; omega
end Go.Limbs
namespace Go.Proofs.YtdhmbgogmoaofaaGreat
open Go.Own Go.Limbs
attribute [local irreducible] St Ops Go.Own.Fin Ok OkF
theorem top_pos {b : Nat} (h : 0 < (limbs b).length) : 0 < (limbs b).getD ((limbs b).length - 1) 0 := by
  have h1 := (X2 b).get ((limbs b).length - 1)
  have h2 : (limbs b).getD ((limbs b).length - 1) 0 ≠ 0 := by
    intro he; have h2 := trim_last (ys := limbs b) (by omega) he; rw [trim_of_limbs] at h2; have h3 := trim_len ((limbs b).take ((limbs b).length - 1)); rw [h2] at h3; simp at h3; omega
  omega
theorem top_split {b : Nat} (h : 0 < (limbs b).length) : (b : Int) = pre (limbs b) ((limbs b).length - 1) + (limbs b).getD ((limbs b).length - 1) 0 * BB ^ ((limbs b).length - 1) := by
  rw [← Xa, show (limbs b).length - 1 + 1 = (limbs b).length by omega, val_eq_pre]
theorem shifted_top {b : Nat} {k : Nat} (hk : k ≤ 30) (hn : 0 < (limbs b).length) (ht : (limbs b).getD ((limbs b).length - 1) 0 < 2 ^ (30 - k)) :
    (shl (limbs b) k).getD (limbs b).length 0 = 0 ∧ 0 < (shl (limbs b) k).getD ((limbs b).length - 1) 0 := by
  have hv := shl_val (limbs b) k (X2 b); rw [Xf] at hv; have hs := top_split hn; have hp := top_pos hn; have hb := Y6 (X2 b) ((limbs b).length - 1); have h2k : (0 : Int) < 2 ^ k := Int.pow_pos (by decide)
  have hlt : val (shl (limbs b) k) < BB ^ (limbs b).length := by
    rw [hv]
    have h1 : (b : Int) < 2 ^ (30 - k) * BB ^ ((limbs b).length - 1) := by
      have : ((limbs b).getD ((limbs b).length - 1) 0 + 1) * BB ^ ((limbs b).length - 1) ≤ 2 ^ (30 - k) * BB ^ ((limbs b).length - 1) := Int.mul_le_mul_of_nonneg_right (by omega) (Int.le_of_lt (Bpos _)); rw [Int.add_mul, Int.one_mul] at this; omega
    have h2 := Int.mul_lt_mul_of_pos_right h1 h2k
    have h3 : 2 ^ (30 - k) * BB ^ ((limbs b).length - 1) * 2 ^ k = BB ^ (limbs b).length := by
      have e := two_split hk
      have e2 : BB ^ (limbs b).length = BB ^ ((limbs b).length - 1) * BB := by rw [← Int.pow_succ]; congr 1; omega
      rw [e2]; show _ = BB ^ ((limbs b).length - 1) * (1073741824 : Int); rw [e]; grind
    omega
  refine ⟨zero_above (shl_ok _ _) hlt _ (Nat.le_refl _), ?_⟩; have h1 := (shl_ok (limbs b) k).get ((limbs b).length - 1); by_cases h0 : (shl (limbs b) k).getD ((limbs b).length - 1) 0 = 0
  · exfalso; have e1 := val_pre_of (shl_ok (limbs b) k) hlt; rw [show (limbs b).length = ((limbs b).length - 1) + 1 by omega, Xa, h0] at e1; have e2 := Y6 (shl_ok (limbs b) k) ((limbs b).length - 1)
    have e3 : BB ^ ((limbs b).length - 1) ≤ (b : Int) := by
      have : 1 * BB ^ ((limbs b).length - 1) ≤ (limbs b).getD ((limbs b).length - 1) 0 * BB ^ ((limbs b).length - 1) := Int.mul_le_mul_of_nonneg_right (by omega) (Int.le_of_lt (Bpos _)); omega
    have e4 : (b : Int) * 1 ≤ b * 2 ^ k := Int.mul_le_mul_of_nonneg_left (by omega) (by omega); omega
  · omega
theorem first_lt {a b : Nat} {k : Nat} (hn : 0 < (limbs b).length) (hl : (limbs b).length ≤ (limbs a).length) :
    val (shl (limbs a) k) < val (shl (limbs b) k) * BB ^ ((limbs a).length - (limbs b).length + 1) := by
  rw [shl_val _ _ (X2 a), shl_val _ _ (X2 b), Xf, Xf]; have hs := top_split hn; have hp := top_pos hn; have hb := Y6 (X2 b) ((limbs b).length - 1); have ha := Y6 (X2 a) (limbs a).length; rw [val_eq_pre] at ha; have h2k : (0 : Int) < 2 ^ k := Int.pow_pos (by decide)
  have e3 : BB ^ ((limbs b).length - 1) ≤ (b : Int) := by
    have : 1 * BB ^ ((limbs b).length - 1) ≤ (limbs b).getD ((limbs b).length - 1) 0 * BB ^ ((limbs b).length - 1) := Int.mul_le_mul_of_nonneg_right (by omega) (Int.le_of_lt (Bpos _)); omega
  have e4 := Int.mul_le_mul_of_nonneg_right e3 (Int.le_of_lt (Bpos ((limbs a).length - (limbs b).length + 1))); rw [← Int.pow_add, show (limbs b).length - 1 + ((limbs a).length - (limbs b).length + 1) = (limbs a).length by omega] at e4
  have e5 : (a : Int) < b * BB ^ ((limbs a).length - (limbs b).length + 1) := by omega
  have e6 := Int.mul_lt_mul_of_pos_right e5 h2k
  have e7 : (b : Int) * BB ^ ((limbs a).length - (limbs b).length + 1) * 2 ^ k = b * 2 ^ k * BB ^ ((limbs a).length - (limbs b).length + 1) := by grind
  omega
theorem gd_bd {g y c z : Int} (hg0 : 0 ≤ g) (hg : g ≤ 1073741823) (hy0 : 0 ≤ y) (hy : y < 1073741824) (hz0 : 0 ≤ z) (hz : z < 1073741824) (hc0 : -1073741824 ≤ c) (hc : c ≤ 0) :
    0 ≤ g * y ∧ g * y ≤ 1152921502459363329 ∧ -1073741824 ≤ (z - g * y + c) / 1073741824 ∧ (z - g * y + c) / 1073741824 ≤ 0 := by
  have h1 : 0 ≤ g * y := Int.mul_nonneg hg0 hy0; have h2 : g * y ≤ 1073741823 * 1073741823 := Int.mul_le_mul hg (by omega) hy0 (by omega); exact ⟨h1, by omega, by omega, by omega⟩
theorem fin_val {a b k : Nat} {A Q : Int} (hb : 0 < b) (hA : 0 ≤ A) (hlt : A < b * 2 ^ k) (hi : A + Q * (b * 2 ^ k) = a * 2 ^ k) : Q = ((a / b : Nat) : Int) ∧ A = (((a % b) * 2 ^ k : Nat) : Int) := by
  have h2k : (0 : Int) < 2 ^ k := Int.pow_pos (by decide)
  have e : A = ((a : Int) - Q * b) * 2 ^ k := by grind
  have h0 : 0 ≤ (a : Int) - Q * b := by
    by_cases h : 0 ≤ (a : Int) - Q * b
    · exact h
    · have : ((a : Int) - Q * b) * 2 ^ k < 0 := Int.mul_neg_of_neg_of_pos (by omega) h2k; omega
  have h1 : (a : Int) - Q * b < b := by
    have : ((a : Int) - Q * b) * 2 ^ k < b * 2 ^ k := by omega
    exact Int.lt_of_mul_lt_mul_right this (by omega)
  have h2 : (a : Int) / b = Q ∧ (a : Int) % b = a - Q * b := by
    rw [Int.ediv_emod_unique (by omega)]; refine ⟨?_, h0, h1⟩; rw [Int.mul_comm (b : Int)]; omega
  refine ⟨by rw [Int.natCast_ediv]; exact h2.1.symm, ?_⟩; rw [e, Int.natCast_mul, Int.natCast_emod, h2.2, Int.natCast_pow]; rfl
theorem shr_limbs (r k : Nat) (hk : k ≤ 30) : trimL (shrL k (limbs (r * 2 ^ k))) = limbs r := by
  rw [Zu (shrL_ok _ _), val_shrL hk _ (X2 _), Xf, Int.natCast_mul, Int.natCast_pow]
  congr 1
  have h2k : (2 : Int) ^ k ≠ 0 := by have : (0 : Int) < 2 ^ k := Int.pow_pos (by decide); omega
  show ((r : Int) * 2 ^ k / 2 ^ k).toNat = r; rw [Int.mul_ediv_cancel _ h2k]; simp
theorem trim_take {us : List Int} {n : Nat} (h : OKL us) (hv : val us < BB ^ n) : trimL (us.take n) = limbs (val us).toNat := by
  rw [Zu (h.take n)]
  congr 2
  exact (val_pre_of h hv).symm
set_option maxHeartbeats 16000000 in
theorem DivMod_big (a b : Nat) (hb : 2 ≤ (limbs b).length) (hab : b ≤ a) (hl : (limbs a).length ≤ 256) : Ok Tryz.prog 151 [natC a, natC b] (.fr (tupT [natC (a / b), natC (a % b), intC 0])) := by
  have hlab : (limbs b).length ≤ (limbs a).length := XW hab; have htp := top_pos (b := b) (by omega); have htb := (X2 b).get ((limbs b).length - 1); simp only [BB] at htb; obtain ⟨tp, htq⟩ : ∃ tp : Nat, (limbs b).getD ((limbs b).length - 1) 0 = tp := ⟨((limbs b).getD ((limbs b).length - 1) 0).toNat, by omega⟩; have hbn := bln_spec (n := tp) (by omega) (by omega); obtain ⟨k, hk⟩ : ∃ k, bln tp = 30 - k ∧ k ≤ 30 := ⟨30 - bln tp, by omega, by omega⟩; have hk30 := hk.2
  have htop : (limbs b).getD ((limbs b).length - 1) 0 < 2 ^ (30 - k) := by
    rw [htq, ← hk.1]
    have : ((2 ^ bln tp : Nat) : Int) = (2 : Int) ^ bln tp := by rw [Int.natCast_pow]; rfl
    omega
  have hst := shifted_top hk30 (by omega) htop; have hfl := first_lt (k := k) (b := b) (by omega) hlab; have hUl := shl_len (limbs a) k hk30 (X2 a); have hVl := shl_len (limbs b) k hk30 (X2 b); have hUok := shl_ok (limbs a) k; have hVok := shl_ok (limbs b) k; have hUv := shl_val (limbs a) k (X2 a); have hVv := shl_val (limbs b) k (X2 b); rw [Xf] at hUv hVv; have hAok := shifted_ok (limbs a) k hk30 (X2 a) (by omega); have hBok := shifted_ok (limbs b) k hk30 (X2 b) (by omega); generalize shl (limbs a) k = U0 at *; generalize shl (limbs b) k = V at *; have eN : ((limbs b).length : Int).toNat = (limbs b).length := Int.toNat_natCast _; generalize hN : (limbs b).length = n at *; generalize hLA : (limbs a).length = la at *
  refine Ok.enter Tryz.func151 Y _ Tryz.ntmps151 Y ?_
  intro S w; refine Qy (Qx fun K hK => ?_); refine Qv Y Y Y (Qv Y Y Y (Qv Y Y Y (Qj (hK _ _ (Qz (Qy ?_)))))); clear hK K; refine Qx (fun K hK => ?_); refine Qq Y Y Y (QQ gotrim (trim_ok _ (by omega)) Y Y Y Y ?_); rw [trim_of_limbs]; refine Qv Y Y Y (Qj (hK _ _ (Qz (Qy ?_)))); clear hK K; refine Qx (fun K hK => ?_); refine Qq Y Y Y (Q7 Y Y sNat.und (List.length_map ..) Y (Qv Y Y Y (Qj (hK _ _ (Qz (Qy (Q0 (Qy ?_)))))))); clear hK K; refine Qx (fun K hK => ?_); refine Qq Y Y Y (Qw ieql Y Y Y Y (Qv Y Y Y (Qj (hK _ _ (Qz ?_))))); clear hK K; rw [hN]; refine QK Y (fun h => by exfalso; omega) (fun h => ?_); clear h; refine Qy (Qx fun K hK => ?_); refine Qq Y Y Y (Qq Y Y Y (QQ goCompare (Compare_ok a b (by omega) (by omega)) Y Y Y Y ?_)); refine Qw ilss Y Y Y Y (Qv Y Y Y (Qj (hK _ _ (Qz ?_)))); clear hK K; refine QK Y (fun h => ?_) (fun h => ?_)
  · exfalso; rw [cmpI_eq] at h; split at h
    · omega
    · split at h <;> omega
  clear h; refine Qy (Qx fun K hK => ?_); refine Qq Y Y Y (Qw ieql Y Y Y Y (Qv Y Y Y (Qj (hK _ _ (Qz ?_))))); clear hK K; refine QK Y (fun h => by exfalso; omega) (fun h => ?_); clear h; refine QU (Qz (Qy (Qx fun K hK => ?_))); refine Qq Y Y Y (Qq Y Y Y (Qw (isub (by omega) (by omega)) Y Y Y Y ?_))
  refine Qh Y Y Y sNat (by omega) (X3 (by omega) (by omega)) Y ?_
  refine Xz Y Y Y lInt Y ?_
  rw [show ((n : Int) - 1).toNat = n - 1 by omega, htq]
  refine Yj (q := (tp : Int)) Y Y uIntB uUintB (wrap_u (by omega) (by omega)) Y ?_
  refine QQ goLen (Len_ok tp (by omega)) Y Y Y Y ?_
  refine Qw (isub (by omega) (by omega)) Y Y Y Y ?_
  refine Qv Y Y Y (Qj (hK _ _ (Qz (Qy ?_)))); clear hK K; refine Qx (fun K hK => ?_); refine Qq Y Y Y (Qq Y Y Y ?_); rw [show (30 : Int) - (bln tp : Int) = (k : Int) by omega]; skip; refine Ops.callFr 0 goshifted hAok Y Y Y Y Y Y (Qq Y Y Y (Qq Y Y Y (Ops.callFr 1 goshifted hBok Y Y Y Y Y Y (Qv Y Y Y (Qv Y Y Y (Qj (hK _ _ (Qz (Qy ?_))))))))); clear hK K; refine Qx (fun K hK => ?_); refine Qq Y Y Y (Q7 Y Y sNat.und (List.length_map ..) Y (Qq Y Y Y (Qw (isub (by omega) (by omega)) Y Y Y Y ?_)))
  refine Qw (iadd (by omega) (by omega)) Y Y Y Y ?_
  rw [hLA]
  refine Z5 2 (la - n + 1) Y Y Y (by omega) sNat (by omega) (by omega) Y Y Y ?_
  rw [ints_made]; refine Qv Y Y Y (Qj (hK _ _ (Qz (Qy (Qy ?_))))); clear hK K; refine Qx (fun K hK => ?_); refine Qq Y Y Y (Q7 Y Y sNat.und (List.length_map ..) Y (Qq Y Y Y (Qw (isub (by omega) (by omega)) Y Y Y Y ?_))); refine Qv Y Y Y (Qj (hK _ _ (Qz (Q0 ?_)))); clear hK K; rw [hLA]
  refine Xq (α := Nat × List Int × List Int) (fun s => s.1 ≤ la - n + 1 ∧ s.2.1.length = la + 1 ∧ OKL s.2.1 ∧ val s.2.1 < val V * BB ^ s.1 ∧ s.2.2.length = la - n + 1 ∧ OKL s.2.2 ∧ (∀ p, p < s.1 → s.2.2.getD p 0 = 0) ∧ val s.2.1 + val s.2.2 * val V = val U0)
    (fun s => [(0, .ct (natC a)), (1, .ct (natC b)), (7, .ct (intC n)), (10, .ct (intC k)), (11, .own 0), (12, .own 1), (13, .own 2), (14, .ct (intC ((s.1 : Int) - 1)))])
    (fun s => [(2, .row 3 1 (ints s.2.2)), (1, .row 3 1 (ints V)), (0, .row 3 1 (ints s.2.1))])
    (fun s => s.1) (la - n + 1, U0, List.replicate (la - n + 1) 0) ⟨Nat.le_refl _, by dsimp only; omega, hUok, hfl, by simp, OKL.zeros _, ?_, ?_⟩ (by exact Qu Y ⟨rfl, rfl, rfl, rfl, rfl, rfl, rfl, by show _ = some (Sl.ct (intC (((la - n + 1 : Nat) : Int) - 1))); rw [show (((la - n + 1 : Nat) : Int) - 1) = (la : Int) - n by omega]; rfl, trivial⟩) ?_
  · intro p _; simp [List.getD_eq_getElem?_getD, List.getElem?_replicate]; split <;> rfl
  · dsimp only; rw [Yb]; simp
  rintro ⟨J, us, qs⟩ ⟨hJ, hul, huok, hult, hql, hqok, hqz, hinv⟩
  dsimp only at hJ hul huok hult hql hqok hqz hinv ⊢; refine Qy (Qy (Qx fun K hK => ?_)); refine Qq Y Y Y (Qw igeq Y Y Y Y (Qj (hK _ _ (Qz ?_)))); clear hK K; refine QK Y (fun h => ?_) (fun h => ?_)
  · obtain ⟨j, rfl⟩ : ∃ j, J = j + 1 := ⟨J - 1, by omega⟩
    have ej : (((j + 1 : Nat) : Int) - 1) = (j : Int) := by omega
    rw [ej]; have W := win (n := n) (j := j) huok hVok (by omega) (by omega) hst.1 hst.2 hult; have c1 := huok.get (j + n); have c2 := huok.get (j + n - 1); have c3 := huok.get (j + n - 2); have c4 := hVok.get (n - 1); have c5 := hVok.get (n - 2); simp only [BB] at c1 c2 c3 c4 c5
    have i1 : ((j : Int) + n).toNat * 1 = j + n := by omega
    have i2 : ((j : Int) + n - 1).toNat * 1 = j + n - 1 := by omega
    have i3 : ((j : Int) + n - 2).toNat * 1 = j + n - 2 := by omega
    have i4 : ((n : Int) - 1).toNat * 1 = n - 1 := by omega
    have i5 : ((n : Int) - 2).toNat * 1 = n - 2 := by omega
    refine QU (Qz (Qy (Q0 (Qy ?_)))); refine Xv mixed 32 (.p 0 (.p 1 (.p 2 (.p 3 (.p 4 (.p 6 (.p 7 (.p 8 (.p 9 (.p 10 (.p 11 (.p 13 (.p 14 (.p 15 (.p 16 (.p 17 (.p 18 (.p 20 (.p 21 (.p 22 (.p 23 (.p 25 (.p 26 (.p 27 (.p 28 (.f 5 (.f 12 (.f 19 (.f 24 (.f 29 (.m 30 (.p 31 .done)))))))))))))))))))))))))))))))) (by kernel_rfl) (fun K hK => ?_); refine Qq Y Y Y (Qq Y Y Y (Qq Y Y Y (Qw (iadd (by omega) (by omega)) Y Y Y Y ?_)))
    refine Xu (la + 1) Y Y Y (by simp; omega) Y sNat (by omega) (by omega) Y ?_
    rw [i1]; refine Qq Y Y Y (Qq Y Y Y (Qq Y Y Y (Qw (iadd (by omega) (by omega)) Y Y Y Y ?_)))
    refine Qw (isub (by omega) (by omega)) Y Y Y Y ?_
    refine Xu (la + 1) Y Y Y (by simp; omega) Y sNat (by omega) (by omega) Y ?_
    rw [i2]; refine Qq Y Y Y (Qq Y Y Y (Qq Y Y Y (Qw (iadd (by omega) (by omega)) Y Y Y Y ?_)))
    refine Qw (isub (by omega) (by omega)) Y Y Y Y ?_
    refine Xu (la + 1) Y Y Y (by simp; omega) Y sNat (by omega) (by omega) Y ?_
    rw [i3]; refine Qq Y Y Y (Qq Y Y Y (Qw (isub (by omega) (by omega)) Y Y Y Y ?_))
    refine Xu (n + 1) Y Y Y (by simp; omega) Y sNat (by omega) (by omega) Y ?_
    rw [i4]; refine Qq Y Y Y (Qq Y Y Y (Qw (isub (by omega) (by omega)) Y Y Y Y ?_))
    refine Xu (n + 1) Y Y Y (by simp; omega) Y sNat (by omega) (by omega) Y ?_
    rw [i5]; skip
    refine QJ Y Y Y Y (Xi (by omega)) lInt Y ?_
    refine QJ Y Y Y Y (Xi (by omega)) lInt Y ?_
    refine QJ Y Y Y Y (Xi (by omega)) lInt Y ?_
    refine QJ Y Y Y Y (Xi (by omega)) lInt Y ?_
    refine QJ Y Y Y Y (Xi (by omega)) lInt Y ?_
    refine QQ goguess (guess_ok _ _ _ _ _ c1.1 W.1 hst.2 c4.2 c2.1 c2.2 c3.1 c3.2 c5.1 c5.2) Y Y Y Y ?_
    generalize gs (us.getD (j + n) 0) (us.getD (j + n - 1) 0) (us.getD (j + n - 2) 0) (V.getD (n - 1) 0) (V.getD (n - 2) 0) = gg at *; obtain ⟨-, g1, g2, g3, g4, uz, vpos, vlt⟩ := W
    have hVJ : val V * BB ^ j < BB ^ (j + n + 1) := by
      have h1 : val V * BB ^ j < BB ^ n * BB ^ j := Int.mul_lt_mul_of_pos_right vlt (Bpos _)
      have h2 : BB ^ n * BB ^ j ≤ BB ^ (j + n + 1) := by
        rw [← Int.pow_add, show j + n + 1 = (n + j) + 1 by omega, Int.pow_succ]; have := Bpos (n + j); simp only [BB] at *; omega
      omega
    have hRlo : -(val V * BB ^ j) ≤ val us - gg * val V * BB ^ j := by
      have : (gg - 1) * val V * BB ^ j = gg * val V * BB ^ j - val V * BB ^ j := by grind
      omega
    have hRhi : val us - gg * val V * BB ^ j < val V * BB ^ j := by
      have : (gg + 1) * val V * BB ^ j = gg * val V * BB ^ j + val V * BB ^ j := by grind
      omega
    refine Qv Y Y Y (Qj (hK _ _ (Qz (Qy ?_)))); clear hK K; refine Qx (fun K hK => ?_); refine Qv Y Y Y (Qj (hK _ _ (Qz (Qy (Qy ?_))))); clear hK K; refine Qx (fun K hK => ?_); refine Qq Y Y Y (Qw (iadd (by omega) (by omega)) Y Y Y Y ?_); refine Qq Y Y Y (Qj (hK _ _ (Qz (Q0 ?_)))); clear hK K
    refine Xq (α := Nat × List Int × Int) (fun s => s.1 ≤ n + 1 ∧ Win us V j (-gg) (-1073741824) 0 s.1 s.2.1 s.2.2)
      (fun s => [(0, .ct (natC a)), (1, .ct (natC b)), (7, .ct (intC n)), (10, .ct (intC k)), (11, .own 0), (12, .own 1), (13, .own 2), (14, .ct (intC j)), (15, .ct (intC gg)), (16, .ct (intC s.2.2)), (113, .ct (intC ((n : Int) + 1))), (114, .ct (intC s.1))])
      (fun s => [(2, .row 3 1 (ints qs)), (1, .row 3 1 (ints V)), (0, .row 3 1 (ints s.2.1))])
      (fun s => n + 1 - s.1) (0, us, 0) ⟨Nat.zero_le _, Win.zero huok (by decide) (by decide)⟩ (by exact Qu Y ⟨rfl, rfl, rfl, rfl, rfl, rfl, rfl, rfl, rfl, rfl, rfl, rfl, trivial⟩) ?_
    · rintro ⟨i, zs, c⟩ ⟨hi, HW⟩
      dsimp only at hi HW ⊢; have hzl := HW.len; refine Qy (Qx fun K hK => ?_); refine Qw ilss Y Y Y Y (Qj (hK _ _ (Qz (Qy ?_)))); clear hK K; refine QK Y (fun h2 => ?_) (fun h2 => ?_)
      · have d1 := HW.ok.get (j + i); have d2 := hVok.get i; simp only [BB] at d1 d2; have d3 := HW.lo; have d4 := HW.hi; have GB := gd_bd g1 g2 d2.1 d2.2 d1.1 d1.2 d3 d4
        have k1 : ((j : Int) + i).toNat * 1 = j + i := by omega
        have k2 : (i : Int).toNat * 1 = i := by omega
        refine QU (Qz (Qy (Q0 (Qy (Qx fun K hK => ?_))))); refine Qq Y Y Y (Qv Y Y Y (Qj (hK _ _ (Qz (Qy ?_))))); clear hK K; refine Xv mixed 16 (.p 0 (.p 1 (.p 2 (.p 3 (.p 4 (.p 6 (.p 7 (.p 8 (.p 9 (.p 13 (.f 5 (.f 10 (.p 11 (.p 12 (.p 14 (.p 15 .done)))))))))))))))) (by kernel_rfl) (fun K hK => ?_); refine Qq Y Y Y (Qq Y Y Y (Qq Y Y Y (Qw (iadd (by omega) (by omega)) Y Y Y Y ?_)))
        refine Xu (la + 1) Y Y Y (by simp; omega) Y sNat (by omega) (by omega) Y ?_
        rw [k1]; refine Qq Y Y Y (Qq Y Y Y (Qq Y Y Y (Xu (n + 1) Y Y Y (by simp; omega) Y sNat (by omega) (by omega) Y ?_))); rw [k2]; refine Qq Y Y Y (QJ Y Y Y Y (Xi (by omega)) lInt Y ?_)
        refine QJ Y Y Y Y (Xi (by omega)) lInt Y ?_
        refine Qw (imul (by omega) (by omega)) Y Y Y Y ?_
        refine Qw (isub (by omega) (by omega)) Y Y Y Y ?_
        refine Qw (iadd (by omega) (by omega)) Y Y Y Y ?_
        refine Qv Y Y Y (Qj (hK _ _ (Qz ?_))); clear hK K; refine Qx (fun K hK => ?_); refine Qq Y Y Y (Qq Y Y Y (Qq Y Y Y (Qw (iadd (by omega) (by omega)) Y Y Y Y ?_))); refine Qq Y Y Y (Qw iand30 Y Y Y Y (Qq Y Y Y (Qw ishr30 Y Y Y Y ?_))); skip
        refine Xu (la + 1) Y Y Y (by simp; omega) Y sNat (by omega) (by omega) Y ?_
        rw [k1]
        refine Qn Y Y Y Y Y zInt (by simp [Ent.cs]; omega) ?_
        simp only [Ent.setc, ZY]; refine Qv Y Y Y (Qj (hK _ _ (Qz ?_))); clear hK K; refine Qx (fun K hK => ?_)
        refine Qw (iadd (by omega) (by omega)) Y Y Y Y ?_
        refine Qq Y Y Y (Qj (hK _ _ (Q4 ?_))); clear hK K
        have ef : zs.getD (j + i) 0 - gg * V.getD i 0 + c = zs.getD (j + i) 0 + -gg * V.getD i 0 + c := by rw [Int.neg_mul]; omega
        have HS := HW.step (by omega) (by rw [← ef]; exact GB.2.2.1) (by rw [← ef]; exact GB.2.2.2); rw [← ef] at HS; refine Qb (i + 1, _, _) (by dsimp only; omega) ⟨by dsimp only; omega, HS⟩ (by exact Qu Y ⟨rfl, rfl, rfl, rfl, rfl, rfl, rfl, rfl, rfl, rfl, rfl, by simp only [Int.natCast_add]; rfl, trivial⟩)
      · have hi' : i = n + 1 := by omega
        subst hi'; have hzr := HW.lt uz; have hval := HW.value; rw [ZZ (xs := V) (by omega), show j + (n + 1) = j + n + 1 by omega] at hval
        have hR2 : val zs + c * BB ^ (j + n + 1) = val us - gg * val V * BB ^ j := by rw [hval, Int.neg_mul, Int.neg_mul]; omega
        have SD := sub_done hVJ hRlo hRhi hzr.1 hzr.2 HW.hi hR2; refine Qr (Qz (Qy (Qy (Qx fun K hK => ?_)))); refine Qq Y Y Y (Qw ilss Y Y Y Y (Qj (hK _ _ (Qz ?_)))); clear hK K; refine QK Y (fun h3 => ?_) (fun h3 => ?_)
        · obtain ⟨s1, s2⟩ := SD.2 h3; have hus0 := Ya huok
          have gpos : 1 ≤ gg := by
            by_cases h0 : gg = 0
            · subst h0; simp at s2; omega
            · omega
          have zz : ∀ p, j + n + 1 ≤ p → zs.getD p 0 = 0 := fun p hp => by rw [HW.same p (by omega)]; exact uz p hp
          have hzok := HW.ok; clear HW hval hR2 SD; refine Qy (Qx fun K hK => ?_); refine Qq Y Y Y (Qw (isub (by omega) (by omega)) Y Y Y Y ?_); refine Qv Y Y Y (Qv Y Y Y (Qj (hK _ _ (Qz (Qy ?_))))); clear hK K; refine Qx (fun K hK => ?_); refine Qq Y Y Y (Qw (iadd (by omega) (by omega)) Y Y Y Y ?_); refine Qq Y Y Y (Qj (hK _ _ (Qz (Q0 ?_)))); clear hK K
          refine Xq (α := Nat × List Int × Int) (fun s => s.1 ≤ n + 1 ∧ Win zs V j 1 0 1 s.1 s.2.1 s.2.2)
            (fun s => [(0, .ct (natC a)), (1, .ct (natC b)), (7, .ct (intC n)), (10, .ct (intC k)), (11, .own 0), (12, .own 1), (13, .own 2), (14, .ct (intC j)), (15, .ct (intC (gg - 1))), (16, .ct (intC s.2.2)), (147, .ct (intC ((n : Int) + 1))), (148, .ct (intC s.1))])
            (fun s => [(2, .row 3 1 (ints qs)), (1, .row 3 1 (ints V)), (0, .row 3 1 (ints s.2.1))])
            (fun s => n + 1 - s.1) (0, zs, 0) ⟨Nat.zero_le _, Win.zero hzok (by decide) (by decide)⟩ (by exact Qu Y ⟨rfl, rfl, rfl, rfl, rfl, rfl, rfl, rfl, rfl, rfl, rfl, rfl, trivial⟩) ?_
          rintro ⟨i, ys, c'⟩ ⟨hi, HW⟩
          dsimp only at hi HW ⊢; have hyl := HW.len; refine Qy (Qx fun K hK => ?_); refine Qw ilss Y Y Y Y (Qj (hK _ _ (Qz (Qy ?_)))); clear hK K; refine QK Y (fun h4 => ?_) (fun h4 => ?_)
          · have d1 := HW.ok.get (j + i); have d2 := hVok.get i; simp only [BB] at d1 d2; have d3 := HW.lo; have d4 := HW.hi
            have k1 : ((j : Int) + i).toNat * 1 = j + i := by omega
            have k2 : (i : Int).toNat * 1 = i := by omega
            refine QU (Qz (Qy (Q0 (Qy (Qx fun K hK => ?_))))); refine Qq Y Y Y (Qv Y Y Y (Qj (hK _ _ (Qz (Qy ?_))))); clear hK K; refine Xv mixed 14 (.p 0 (.p 1 (.p 2 (.p 3 (.p 4 (.p 6 (.p 7 (.p 8 (.p 11 (.f 5 (.f 9 (.p 10 (.p 12 (.p 13 .done)))))))))))))) (by kernel_rfl) (fun K hK => ?_); refine Qq Y Y Y (Qq Y Y Y (Qq Y Y Y (Qw (iadd (by omega) (by omega)) Y Y Y Y ?_)))
            refine Xu (la + 1) Y Y Y (by simp; omega) Y sNat (by omega) (by omega) Y ?_
            rw [k1]; refine Qq Y Y Y (Qq Y Y Y (Xu (n + 1) Y Y Y (by simp; omega) Y sNat (by omega) (by omega) Y ?_)); rw [k2]; refine Qq Y Y Y (QJ Y Y Y Y (Xi (by omega)) lInt Y ?_)
            refine QJ Y Y Y Y (Xi (by omega)) lInt Y ?_
            refine Qw (iadd (by omega) (by omega)) Y Y Y Y ?_
            refine Qw (iadd (by omega) (by omega)) Y Y Y Y ?_
            refine Qv Y Y Y (Qj (hK _ _ (Qz ?_))); clear hK K; refine Qx (fun K hK => ?_); refine Qq Y Y Y (Qq Y Y Y (Qq Y Y Y (Qw (iadd (by omega) (by omega)) Y Y Y Y ?_))); refine Qq Y Y Y (Qw iand30 Y Y Y Y (Qq Y Y Y (Qw ishr30 Y Y Y Y ?_))); skip
            refine Xu (la + 1) Y Y Y (by simp; omega) Y sNat (by omega) (by omega) Y ?_
            rw [k1]
            refine Qn Y Y Y Y Y zInt (by simp [Ent.cs]; omega) ?_
            simp only [Ent.setc, ZY]; refine Qv Y Y Y (Qj (hK _ _ (Qz ?_))); clear hK K; refine Qx (fun K hK => ?_)
            refine Qw (iadd (by omega) (by omega)) Y Y Y Y ?_
            refine Qq Y Y Y (Qj (hK _ _ (Q4 ?_))); clear hK K
            have ef : ys.getD (j + i) 0 + V.getD i 0 + c' = ys.getD (j + i) 0 + 1 * V.getD i 0 + c' := by omega
            have HS := HW.step (by omega) (by rw [← ef]; omega) (by rw [← ef]; omega); rw [← ef] at HS; refine Qb (i + 1, _, _) (by dsimp only; omega) ⟨by dsimp only; omega, HS⟩ (by exact Qu Y ⟨rfl, rfl, rfl, rfl, rfl, rfl, rfl, rfl, rfl, rfl, rfl, by simp only [Int.natCast_add]; rfl, trivial⟩)
          · have hi' : i = n + 1 := by omega
            subst hi'; have hyr := HW.lt zz; have hval := HW.value; rw [ZZ (xs := V) (by omega), show j + (n + 1) = j + n + 1 by omega, Int.one_mul, s1] at hval; have AD := add_done hVJ hRlo s2 hyr.1 hyr.2 hval; have hyok := HW.ok
            have k3 : (j : Int).toNat * 1 = j := by omega
            clear HW hval; refine Qr (Qz (Qx fun K hK => ?_)); refine Qq Y Y Y (Qq Y Y Y (Qq Y Y Y (Xu (la - n + 1) Y Y Y (by simp; omega) Y sNat (by omega) (by omega) Y ?_))); rw [k3]
            refine Qn Y Y Y Y Y zInt (by simp [Ent.cs]; omega) ?_
            simp only [Ent.setc, ZY]; refine Qj (hK _ _ (Qz ?_)); clear hK K; refine Qx (fun K hK => ?_); refine Qq Y Y Y (Qw (isub (by omega) (by omega)) Y Y Y Y ?_); refine Qv Y Y Y (Qj (hK _ _ (Q4 ?_))); clear hK K; refine Qb (j, ys, qs.set j (gg - 1)) (by dsimp only; omega) ⟨by dsimp only; omega, by dsimp only; omega, hyok, ?_, by simp [hql], hqok.set _ (by simp only [BB]; omega), ?_, ?_⟩ (by exact Qu Y ⟨rfl, rfl, rfl, rfl, rfl, rfl, rfl, rfl, trivial⟩)
            all_goals dsimp only
            · omega
            · intro p hp; rw [getD_set (by omega), if_neg (by omega)]; exact hqz p (by omega)
            · rw [AD, Jz (by omega), hqz j (by omega), ← hinv]; grind
        · have s1 := SD.1 h3; have hzok := HW.ok
          have k3 : (j : Int).toNat * 1 = j := by omega
          clear HW hval hR2 SD; refine QU (Qz (Qx fun K hK => ?_)); refine Qq Y Y Y (Qq Y Y Y (Qq Y Y Y (Xu (la - n + 1) Y Y Y (by simp; omega) Y sNat (by omega) (by omega) Y ?_))); rw [k3]
          refine Qn Y Y Y Y Y zInt (by simp [Ent.cs]; omega) ?_
          simp only [Ent.setc, ZY]; refine Qj (hK _ _ (Qz ?_)); clear hK K; refine Qx (fun K hK => ?_); refine Qq Y Y Y (Qw (isub (by omega) (by omega)) Y Y Y Y ?_); refine Qv Y Y Y (Qj (hK _ _ (Q4 ?_))); clear hK K; refine Qb (j, zs, qs.set j gg) (by dsimp only; omega) ⟨by dsimp only; omega, by dsimp only; omega, hzok, ?_, by simp [hql], hqok.set _ (by simp only [BB]; omega), ?_, ?_⟩ (by exact Qu Y ⟨rfl, rfl, rfl, rfl, rfl, rfl, rfl, rfl, trivial⟩)
          all_goals dsimp only
          · omega
          · intro p hp; rw [getD_set (by omega), if_neg (by omega)]; exact hqz p (by omega)
          · rw [s1, Jz (by omega), hqz j (by omega), ← hinv]; grind
  · have hJ0 : J = 0 := by omega
    subst hJ0
    have hb0 : 0 < b := by
      rcases Nat.eq_zero_or_pos b with h0 | h0
      · subst h0; rw [limbs_zero] at hN; simp at hN; omega
      · exact h0
    rw [Int.pow_zero, Int.mul_one] at hult; have FV := fin_val (k := k) (a := a) hb0 (Ya huok) (by rw [← hVv]; exact hult) (by rw [← hVv, ← hUv]; exact hinv)
    have hVn : val V < BB ^ n := by
      have e := val_of_zeros (xs := V) (p := n) (fun p hp => by
        rcases Nat.eq_or_lt_of_le hp with rfl | hp
        · exact hst.1
        · exact getD_ge (by omega))
      rw [e]; exact (Y6 hVok n).2
    have ht := trim_take (n := n) huok (by omega); rw [FV.2, Int.toNat_natCast] at ht
    have hqs : trimL qs = limbs (a / b) := by rw [Zu hqok, FV.1, Int.toNat_natCast]
    have hrl : (limbs (a % b * 2 ^ k)).length ≤ n := by rw [← ht]; exact Nat.le_trans (trim_len _) (by simp; omega)
    have hsh := shr_limbs (a % b) k hk30; have hsl := shrL_len k (limbs (a % b * 2 ^ k)); have hrok := X2 (a % b * 2 ^ k); have hsg := shrL_get k (limbs (a % b * 2 ^ k)); clear hfl hinv hult hUv hVv hbn htop; refine Xl 0 _ Y (Xc _ _) Xe (Qr (Qz (Qy (Qx fun K hK => ?_)))); refine Qq Y Y Y (Qq Y Y Y (Ops.cutHi Y Y Y sNat (by omega) (by rw [List.length_map]; omega) Y ?_)); rw [← List.map_take, eN]
    refine QQ gotrim (trim_ok _ (by simp; omega)) Y Y Y Y ?_
    rw [ht]; generalize limbs (a % b * 2 ^ k) = rs at *; generalize shrL k rs = ss at *; refine Qv Y Y Y (Qj (hK _ _ (Qz (Qy ?_)))); clear hK K; refine Qx (fun K hK => ?_); refine Qq Y Y Y (Q7 Y Y sNat.und (List.length_map ..) Y (Z5 0 rs.length Y Y Y Y sNat (by omega) (by omega) Y Y Y ?_)); rw [ints_made]; refine Qv Y Y Y (Qj (hK _ _ (Qz (Qy (Qy ?_))))); clear hK K; refine Qx (fun K hK => ?_); refine Qq Y Y Y (Q7 Y Y sNat.und (List.length_map ..) Y (Qw (isub (by omega) (by omega)) Y Y Y Y ?_)); refine Qv Y Y Y (Qj (hK _ _ (Qz (Q0 ?_)))); clear hK K
    refine Xq (α := Nat × List Int) (fun s => s.1 ≤ rs.length ∧ s.2.length = rs.length ∧ (∀ p, s.1 ≤ p → s.2.getD p 0 = ss.getD p 0))
      (fun s => [(10, .ct (intC k)), (13, .own 2), (21, .ct (intsC rs)), (22, .own 0), (23, .ct (intC ((s.1 : Int) - 1)))])
      (fun s => [(0, .row 3 1 (ints s.2)), (2, .row 3 1 (ints qs)), (1, .row 3 1 (ints V))])
      (fun s => s.1) (rs.length, List.replicate rs.length 0) ⟨Nat.le_refl _, by simp, ?_⟩ (by exact Qu Y ⟨rfl, rfl, rfl, rfl, rfl, trivial⟩) ?_
    · intro p hp; dsimp only at hp ⊢; rw [getD_ge (by simp; omega), getD_ge (by omega)]
    rintro ⟨J, zs⟩ ⟨hJ, hzl, hz⟩
    dsimp only at hJ hzl hz ⊢; refine Qy (Qy (Qx fun K hK => ?_)); refine Qq Y Y Y (Qw igeq Y Y Y Y (Qj (hK _ _ (Qz ?_)))); clear hK K; refine QK Y (fun h => ?_) (fun h => ?_)
    · obtain ⟨i, rfl⟩ : ∃ i, J = i + 1 := ⟨J - 1, by omega⟩
      have ej : (((i + 1 : Nat) : Int) - 1) = (i : Int) := by omega
      rw [ej]; have d1 := hrok.get i; have d2 := hrok.get (i + 1); simp only [BB] at d1 d2; have k1 : (i : Int).toNat = i := Int.toNat_natCast i
      have k2 : (i : Int).toNat * 1 = i := by omega
      have k3 : ((i : Int) + 1).toNat = i + 1 := by omega
      refine QU (Qz (Qy (Q0 ?_))); refine Xv mixed 16 (.p 0 (.p 1 (.p 2 (.p 3 (.p 4 (.p 7 (.p 8 (.p 9 (.p 12 (.f 10 (.m 5 (.p 6 (.p 11 (.p 13 (.p 14 (.p 15 (.a 16 .done))))))))))))))))) (by kernel_rfl) (fun K hK => ?_); refine Qq Y Y Y (Qq Y Y Y (Qq Y Y Y (Qq Y Y Y (Qw (iadd (by omega) (by omega)) Y Y Y Y ?_)))); refine Qq Y Y Y (Qq Y Y Y (Qh Y Y Y sNat (by omega) (X3 (by omega) (by omega)) Y ?_)); refine Qq Y Y Y (Xz Y Y Y lInt Y ?_); rw [k1]
      refine QQ goat (at_ok rs _ (by omega)) Y Y Y Y ?_
      rw [k3]
      refine Qw (ishl30 (by omega) (by omega)) Y Y Y Y ?_
      skip
      refine Qw (ior30 (by omega) (by omega) (by omega) (by omega)) Y Y Y Y ?_
      refine Qw (ishr k Y (by omega)) Y Y Y Y ?_
      refine Qw iand30 Y Y Y Y (Xu rs.length Y Y Y (by simp; omega) Y sNat (by omega) (by omega) Y ?_); rw [k2]
      refine Qn Y Y Y Y Y zInt (by simp [Ent.cs]; omega) ?_
      simp only [Ent.setc, ZY]; refine Qj (hK _ _ (Qz ?_)); clear hK K; refine Qx (fun K hK => ?_); refine Qq Y Y Y (Qw (isub (by omega) (by omega)) Y Y Y Y ?_); refine Qv Y Y Y (Qj (hK _ _ (Q4 ?_))); clear hK K; refine Qb (i, _) (by dsimp only; omega) ⟨by dsimp only; omega, ?_, ?_⟩ (by exact Qu Y ⟨rfl, rfl, rfl, rfl, rfl, trivial⟩)
      · simp [hzl]
      · intro p hp; dsimp only at hp ⊢; rw [getD_set (by omega)]; split
        · rename_i e; subst e; exact (hsg i (by omega)).symm
        · exact hz p (by omega)
    · have hJ0 : J = 0 := by omega
      subst hJ0
      have hzs : zs = ss := by
        apply List.ext_getElem (by omega)
        intro p h1 h2; have := hz p (Nat.zero_le _)
        simpa [List.getD_eq_getElem?_getD, h1, h2] using this
      subst hzs; refine Xl 0 _ Y (Xc _ _) Xe (Xl 2 _ Y (Xc _ _) Xe (Qr (Qz (Qy (Qx fun K hK => ?_))))); refine Qq Y Y Y (QQ gotrim (trim_ok _ (by omega)) Y Y Y Y ?_); rw [hqs]; refine Qq Y Y Y (QQ gotrim (trim_ok _ (by omega)) Y Y Y Y ?_); rw [hsh]; refine Qv Y Y Y (Qv Y Y Y (Qv Y Y Y (Qj (hK _ _ (Qz (Q2 ?_)))))); clear hK K; refine Q1 [_, _, _] rfl (QZ Y (QZ Y (QZ Y QX))) Y Y
end Go.Proofs.YtdhmbgogmoaofaaGreat
namespace Go.Proofs.YtdhmbgogmoaofaaGreat
open Go.Own Go.Limbs
theorem uBool : Tryz.prog.underlying 4 = some .bool := Tryz.underlying4
theorem zvFrac : (Tryz.prog.info? 38).map (·.zero) = some (some (.agg #[.bool false, .slice none 0 0, .slice none 0 0])) := by kernel_rfl
theorem fF0 : fldInfo Tryz.prog 38 0 = some (0, some 1) := by kernel_rfl
theorem fF1 : fldInfo Tryz.prog 38 1 = some (1, some 1) := by kernel_rfl
theorem fF2 : fldInfo Tryz.prog 38 2 = some (2, some 1) := by kernel_rfl
theorem fR0 : fldInfo Tryz.prog 57 0 = some (0, some 1) := by kernel_rfl
theorem fR1 : fldInfo Tryz.prog 57 1 = some (1, some 1) := by kernel_rfl
theorem Xy : LdN Tryz.prog 38 3 := LdN.of _ Tryz.underlying38 rfl (by kernel_rfl)
theorem lRow : LdN Tryz.prog 57 2 := LdN.of _ Tryz.underlying57 rfl (by kernel_rfl)
theorem szFrac : (Tryz.prog.info? 38).map (·.size) = some 3 := by kernel_rfl
theorem szRow : (Tryz.prog.info? 57).map (·.size) = some 2 := by kernel_rfl
theorem bFrac : bInfo Tryz.prog 38 = some (.agg #[.bool false, .slice none 0 0, .slice none 0 0], [(0, some 1), (1, some 1), (2, some 1)]) := by kernel_rfl
theorem sFracs : SlcT Tryz.prog 25 38 3 56 (.agg #[.bool false, .slice none 0 0, .slice none 0 0]) := SlcT.of Tryz.underlying25 (by kernel_rfl) rfl (by decide)
theorem sRows : SlcT Tryz.prog 23 57 2 32 (.agg #[.slice none 0 0, .int .i64 0]) := SlcT.of Tryz.underlying23 (by kernel_rfl) rfl (by decide)
structure Fr where
  neg : Bool
  num : Nat
  den : Nat
abbrev frCs (f : Fr) : List CT := [boolC f.neg, natC f.num, natC f.den]
abbrev fracC (f : Fr) : CT := .fr (aggT (frCs f))
abbrev fracsC (fs : List Fr) : CT := .fr (sliceT 3 (fs.map frCs))
abbrev frac0 : CT := .fr (aggT [boolC false, .ex (.slice none 0 0), .ex (.slice none 0 0)])
attribute [local irreducible] Go.Own.Fin Ok Ops St
theorem all_take_succ {xs : List Int} {p : Int → Bool} {i : Nat} (h : i < xs.length) : (xs.take (i + 1)).all p = ((xs.take i).all p && p (xs.getD i 0)) := by
  rw [List.take_succ_eq_append_getElem h, List.all_append]; simp [List.getD_eq_getElem?_getD, List.getElem?_eq_getElem h]
theorem all_false {xs : List Int} {p : Int → Bool} {i : Nat} (h : i < xs.length) (hp : p (xs.getD i 0) = false) : xs.all p = false := by
  rw [List.all_eq_false]; refine ⟨xs[i], List.getElem_mem h, ?_⟩
  have : xs.getD i 0 = xs[i] := by simp [List.getD_eq_getElem?_getD, List.getElem?_eq_getElem h]
  rw [← this, hp]; simp
theorem bad2 {x : Int} (h : x < 0 ∨ BB ≤ x) : (decide (0 ≤ x) && decide (x < BB)) = false := by
  rw [Bool.and_eq_false_iff, decide_eq_false_iff_not, decide_eq_false_iff_not]; omega
theorem good2 {x : Int} (h1 : 0 ≤ x) (h2 : x < BB) : (true && (decide (0 ≤ x) && decide (x < BB))) = true := by
  rw [Bool.true_and, Bool.and_eq_true, decide_eq_true_eq, decide_eq_true_eq]; omega
set_option maxHeartbeats 2000000 in
theorem Valid_ok (xs : List Int) (hl : xs.length < 4611686018427387904) : Ok Tryz.prog 120 [intsC xs] (boolC (validL xs)) := by
  refine Ok.enter Tryz.func120 J _ Tryz.ntmps120 J ?_
  intro S w; refine Qy (Qx fun K hK => ?_); refine Qv J J J (Qj (hK _ _ ?_)); refine Qz (Qy (Qy (Qx fun K hK => ?_))); refine Qq J J J (Q7 J J sNat.und (List.length_map ..) J (Qq J J J (Qj (hK _ _ ?_)))); refine Qz (Q0 ?_)
  refine Xq (α := Nat) (fun i => i ≤ xs.length ∧ (xs.take i).all (fun x => decide (0 ≤ x) && decide (x < BB)) = true)
    (fun i => [(0, .ct (intsC xs)), (5, .ct (intsC xs)), (6, .ct (intC xs.length)), (7, .ct (intC i))]) (fun _ => []) (fun i => xs.length - i) 0 ⟨Nat.zero_le _, rfl⟩ (by exact Qu J ⟨rfl, rfl, rfl, rfl, trivial⟩) ?_
  intro i ⟨hi, hv⟩; dsimp only; refine Qy (Qx fun K hK => ?_); refine Qw ilss J J J J (Qj (hK _ _ ?_)); refine Qz (Qy ?_); refine QK J (fun h => ?_) (fun h => ?_)
  · have e2 : (i : Int).toNat = i := Int.toNat_natCast i
    have hlt : i < xs.length := by omega
    have hbad : (decide (0 ≤ xs.getD i 0) && decide (xs.getD i 0 < BB)) = false → validL xs = false := fun hp => by
      unfold validL; rw [all_false (p := fun x => decide (0 ≤ x) && decide (x < BB)) hlt hp]; rfl
    refine QU (Qz (Qy (Q0 (Qy (Qx fun K hK => ?_)))))
    refine Qh J J J sNat (by omega) (X3 (by omega) (by omega)) J ?_
    refine Xz J J J lInt J (Qv J J J (Qj (hK _ _ ?_))); refine Qz (Qy (Qx fun K hK => ?_)); refine Qq J J J (Qw ilss J J J J (Qq J J J ?_)); rw [e2]; skip; refine Qp 13 J (fun h2 => ?_) (fun h2 => ?_)
    · refine Qk J J J (Qk J J J (Qc J J J J (Qj (hK _ _ ?_)))); refine Qz (XU J (Qy (Qx fun K hK => ?_))); refine Qv J J J (Qj (hK _ _ ?_)); refine Qz (Q2 (Qe (QW (QW (Qe (QW ?_)))))); refine Q1 [_] rfl (QZ J QX) (by rw [hbad (bad2 (by unfold BB; omega))]; rfl) J
    · refine Qq J J J (Qw igeq J J J J (Q6 J J J J (Qj (hK _ _ ?_)))); refine Qz (QK J (fun h3 => ?_) (fun h3 => ?_))
      · refine Qy (Qx fun K hK => ?_); refine Qv J J J (Qj (hK _ _ ?_)); refine Qz (Q2 (Qe (QW (QW (Qe (QW ?_)))))); refine Q1 [_] rfl (QZ J QX) (by rw [hbad (bad2 (by unfold BB; omega))]; rfl) J
      · refine QU (Qz (Qx fun K hK => ?_))
        refine Qw (iadd (by omega) (by omega)) J J J J ?_
        refine Qq J J J (Qj (hK _ _ ?_)); refine Q4 (Qb (i + 1) (by omega) ⟨by omega, ?_⟩ (by exact Qu J ⟨rfl, rfl, rfl, by simp only [Int.natCast_add]; rfl, trivial⟩)); rw [all_take_succ hlt, hv]; exact good2 (by omega) (by unfold BB; omega)
  · have hi' : i = xs.length := by omega
    rw [hi', List.take_length] at hv
    have e : validL xs = (decide (xs.length ≤ 256) && (decide (xs.length = 0) || decide (xs.getD (xs.length - 1) 0 ≠ 0))) := by unfold validL; rw [hv]; simp
    clear h; refine Qr (Qz (Qy (Qx fun K hK => ?_))); refine Qq J J J (Q7 J J sNat.und (List.length_map ..) J (Qw ileq J J J J (Qq J J J (Qp 21 J (fun h2 => ?_) (fun h2 => ?_)))))
    · refine Qq J J J (Q7 J J sNat.und (List.length_map ..) J (Qw ieql J J J J (Qq J J J (Qp 25 J (fun h3 => ?_) (fun h3 => ?_)))))
      · refine Qk J J J (Qk J J J (Qk J J J (Qk J J J (Qk J J J (Qk J J J (Qk J J J (Qc J J J J (Qc J J J J (Qv J J J (Qj (hK _ _ ?_))))))))))); refine Qz (Q2 ?_); refine Q1 [_] rfl (QZ J QX) (by rw [e, show decide (xs.length ≤ 256) = true by simp; omega, show decide (xs.length = 0) = true by rw [decide_eq_true_eq]; omega]; rfl) J
      · have e1 : ((xs.length : Int) - 1).toNat = xs.length - 1 := by omega
        refine Qq J J J (Qq J J J (Q7 J J sNat.und (List.length_map ..) J (Qw (isub (by omega) (by omega)) J J J J ?_)))
        refine Qh J J J sNat (by omega) (X3 (by omega) (by omega)) J ?_
        refine Xz J J J lInt J (Qw ineq J J J J (Q6 J J J J (Qc J J J J (Qv J J J (Qj (hK _ _ ?_)))))); refine Qz (Q2 ?_); rw [e1]; skip; refine Q1 [_] rfl (QZ J QX) (by rw [e, show decide (xs.length ≤ 256) = true by simp; omega, show decide (xs.length = 0) = false by simp; intro h4; subst h4; simp at h3]; rfl) J
    · refine Qk J J J (Qk J J J (Qk J J J (Qk J J J (Qk J J J (Qk J J J (Qk J J J (Qk J J J (Qk J J J (Qk J J J (Qk J J J (Qk J J J (Q6 J J J J (Qv J J J (Qj (hK _ _ ?_))))))))))))))); refine Qz (Q2 ?_); refine Q1 [_] rfl (QZ J QX) (by rw [e, show decide (xs.length ≤ 256) = false by simp; omega]; rfl) J
theorem goValid : InGo Tryz.prog 120 := InGo.of Tryz.func120 (by kernel_rfl) (by kernel_rfl)
theorem Valid1_ok (xs : List Int) (hl : xs.length < 4611686018427387904) : Ok Tryz.prog 119 [intsC xs] (boolC (validL xs && decide (xs.length ≤ 64))) := by
  refine Ok.enter Tryz.func119 J _ Tryz.ntmps119 J ?_
  intro S w; refine Qy (Qx fun K hK => ?_); refine Qv J J J (Qj (hK _ _ ?_)); refine Qz (Qy (Qx fun K hK => ?_)); refine Qq J J J (QQ goValid (Valid_ok xs hl) J J J J (Qq J J J (Zk 5 J (fun h => ?_) (fun h => ?_))))
  · refine Qq J J J (Q7 J J sNat.und (List.length_map ..) J (Qw ileq J J J J (Qc J J J J (Qv J J J (Qj (hK _ _ ?_)))))); refine Qz (Q2 ?_); refine Q1 [_] rfl (QZ J QX) (by rw [h, Bool.true_and, show decide (xs.length ≤ 64) = decide ((xs.length : Int) ≤ 64) by rw [decide_eq_decide]; omega]; rfl) J
  · refine Qk J J J (Qk J J J (Qk J J J (Q6 J J J J (Qv J J J (Qj (hK _ _ ?_)))))); refine Qz (Q2 ?_); refine Q1 [_] rfl (QZ J QX) (by rw [h, Bool.false_and]; rfl) J
theorem goValid1 : InGo Tryz.prog 119 := InGo.of Tryz.func119 (by kernel_rfl) (by kernel_rfl)
def fvalidL (neg : Bool) (xs ys : List Int) : Bool := (validL xs && decide (xs.length ≤ 64)) && (validL ys && decide (ys.length ≤ 64)) && decide (0 < ys.length) && !(neg && decide (xs.length = 0))
set_option maxHeartbeats 2000000 in
theorem FValid_list (neg : Bool) (xs ys : List Int) (hx : xs.length < 4611686018427387904) (hy : ys.length < 4611686018427387904) : Ok Tryz.prog 64 [.fr (aggT [boolC neg, intsC xs, intsC ys])] (boolC (fvalidL neg xs ys)) := by
  refine Ok.enter Tryz.func64 J _ Tryz.ntmps64 J ?_
  intro S w; have e0 : fvalidL neg xs ys = ((validL xs && decide (xs.length ≤ 64)) && (validL ys && decide (ys.length ≤ 64)) && decide (0 < ys.length) && !(neg && decide (xs.length = 0))) := rfl; have h1 := Valid1_ok xs hx; have h2 := Valid1_ok ys hy; generalize (validL xs && decide (xs.length ≤ 64)) = b1 at e0 h1; generalize (validL ys && decide (ys.length ≤ 64)) = b2 at e0 h2; generalize fvalidL neg xs ys = r at *; refine Qy (Qx fun K hK => ?_); refine XZ 0 J J J J J J J (Qv J J J (Qj (hK _ _ ?_))); refine Qz (Qy (Qx fun K hK => ?_)); refine Qv J J J (Qj (hK _ _ ?_)); refine Qz (Qy (Qx fun K hK => ?_)); refine Qq J J J (QV J J J fF1 J (QJ J J J J J lNat J (Ops.callF goValid1 J h1 J J J J (Qq J J J (Zk 8 J (fun h => ?_) (fun h => ?_))))))
  · refine Qq J J J (QV J J J fF2 J (QJ J J J J J lNat J (Ops.callF goValid1 J h2 J J J J (Qc J J J J (Qq J J J (Zk 14 J (fun h3 => ?_) (fun h3 => ?_)))))))
    · refine QV J J J fF2 J (QJ J J J J J lNat J (Q7 J J sNat.und (List.length_map ..) J (Qw igtr J J J J (Qc J J J J (Qq J J J (Qp 20 J (fun h4 => ?_) (fun h4 => ?_)))))))
      · refine QV J J J fF0 J (QJ J J J J J lBool J (Qq J J J (Zk 23 J (fun h5 => ?_) (fun h5 => ?_))))
        · refine QV J J J fF1 J (QJ J J J J J lNat J (Q7 J J sNat.und (List.length_map ..) J (Qw ieql J J J J (Qc J J J J (Xj J J J (Qc J J J J (Qv J J J (Qj (hK _ _ ?_))))))))); refine Qz (Q2 ?_); refine Q1 [_] rfl (QZ J QX) (by rw [e0, h, h3, h5, show decide (0 < ys.length) = true by rw [decide_eq_true_eq]; omega, show decide (xs.length = 0) = decide ((xs.length : Int) = 0) by rw [decide_eq_decide]; omega]; rfl) J
        · refine Qk J J J (Qk J J J (Qk J J J (Qk J J J (Q6 J J J J (Xj J J J (Qc J J J J (Qv J J J (Qj (hK _ _ ?_))))))))); refine Qz (Q2 ?_); refine Q1 [_] rfl (QZ J QX) (by rw [e0, h, h3, h5, show decide (0 < ys.length) = true by rw [decide_eq_true_eq]; omega]; rfl) J
      · refine Qk J J J (Qk J J J (Qk J J J (Qk J J J (Qk J J J (Qk J J J (Qk J J J (Qk J J J (Qk J J J (Q6 J J J J (Qv J J J (Qj (hK _ _ ?_)))))))))))); refine Qz (Q2 ?_); refine Q1 [_] rfl (QZ J QX) (by rw [e0, h, h3, show decide (0 < ys.length) = false by rw [decide_eq_false_iff_not]; omega]; rfl) J
    · refine Qk J J J (Qk J J J (Qk J J J (Qk J J J (Q6 J J J J (Qq J J J (Qk J J J (Qk J J J (Qk J J J (Qk J J J (Qk J J J (Qk J J J (Qk J J J (Qk J J J (Qk J J J (Q6 J J J J (Qv J J J (Qj (hK _ _ ?_)))))))))))))))))); refine Qz (Q2 ?_); refine Q1 [_] rfl (QZ J QX) (by rw [e0, h3, Bool.and_false]; rfl) J
  · refine Qk J J J (Qk J J J (Qk J J J (Qk J J J (Q6 J J J J (Qq J J J (Qk J J J (Qk J J J (Qk J J J (Qk J J J (Q6 J J J J (Qq J J J (Qk J J J (Qk J J J (Qk J J J (Qk J J J (Qk J J J (Qk J J J (Qk J J J (Qk J J J (Qk J J J (Q6 J J J J (Qv J J J (Qj (hK _ _ ?_)))))))))))))))))))))))); refine Qz (Q2 ?_); refine Q1 [_] rfl (QZ J QX) (by rw [e0, h]; rfl) J
theorem goFValid : InGo Tryz.prog 64 := InGo.of Tryz.func64 (by kernel_rfl) (by kernel_rfl)
theorem limbs_len_pos {n : Nat} : 0 < (limbs n).length ↔ n ≠ 0 := by
  constructor
  · intro h h0; subst h0; rw [limbs_zero] at h; simp at h
  · intro h; rw [limbs_pos h]; simp
theorem limbs_len_posI {n : Nat} : decide ((limbs n).length > (0 : Int)) = decide (n ≠ 0) := by
  rw [decide_eq_decide, ← limbs_len_pos]; omega
theorem goAdd : InGo Tryz.prog 153 := InGo.of Tryz.func153 (by kernel_rfl) (by kernel_rfl)
set_option maxHeartbeats 2000000 in
theorem magnitude_ok (n : Int) (h1 : -9223372036854775808 ≤ n) (h2 : n ≤ 9223372036854775807) : Ok Tryz.prog 114 [intC n] (natC n.natAbs) := by
  refine Ok.enter Tryz.func114 rfl _ Tryz.ntmps114 rfl ?_
  intro S w
  (refine Qy (Qx fun K hK => ?_); refine Qv rfl rfl rfl ?_; refine Qj (hK _ _ (Qz (Qy (Qy ?_)))); clear hK K; refine Qx (fun K hK => ?_); refine Qq rfl rfl rfl ?_; refine Qw ineq rfl rfl rfl rfl ?_; refine Qj (hK _ _ (Qz ?_)); clear hK K)
  refine QK rfl (fun h => ?_) (fun h => ?_)
  · (refine Qy (Qx fun K hK => ?_); refine Qq rfl rfl rfl ?_; refine Qq rfl rfl rfl ?_)
    refine Ops.ineg rfl rfl (by omega) (by omega) rfl ?_
    (refine Ops.max2 rfl rfl rfl rfl ?_; refine Qv rfl rfl rfl ?_; refine Qj (hK _ _ (Qz (Qy ?_))); clear hK K; refine Qx (fun K hK => ?_); refine Qq rfl rfl rfl ?_)
    rw [show max n (-n) = (n.natAbs : Int) by omega]
    refine QQ goFrom (From_ok n.natAbs (by omega)) rfl rfl rfl rfl ?_
    (refine Qq rfl rfl rfl ?_; refine QY rfl rfl rfl rfl ?_; refine QY rfl rfl rfl rfl ?_; refine Qv rfl rfl rfl ?_; refine Qv rfl rfl rfl ?_; refine Qj (hK _ _ (Qz (Qy ?_))); clear hK K; refine Qx (fun K hK => ?_); refine Qq rfl rfl rfl ?_; refine Qv rfl rfl rfl ?_; refine Qj (hK _ _ (Qz (Q2 (QW ?_)))); clear hK K)
    refine Q1 [_] rfl (QZ rfl QX) rfl rfl
  · (refine QU (Qz (Qy (Qx fun K hK => ?_))))
    refine QQ goFrom (From_ok 4611686018427387904 (by omega)) rfl rfl rfl rfl ?_
    (refine Qq rfl rfl rfl ?_; refine QY rfl rfl rfl rfl ?_; refine QY rfl rfl rfl rfl ?_; refine Qv rfl rfl rfl ?_; refine Qv rfl rfl rfl ?_; refine Qj (hK _ _ (Qz (Qy ?_))); clear hK K; refine Qx (fun K hK => ?_); refine Qq rfl rfl rfl ?_; refine Qq rfl rfl rfl ?_)
    refine QQ goAdd (Add_list _ _ ?_ ?_ (X2 _) (X2 _)) rfl rfl rfl rfl ?_
    · exact Nat.le_trans (Qg (k := 3) (by decide)) (by decide)
    · exact Nat.le_trans (Qg (k := 3) (by decide)) (by decide)
    rw [Xf]
    (refine Qq rfl rfl rfl ?_; refine QY rfl rfl rfl rfl ?_; refine QY rfl rfl rfl rfl ?_; refine Qv rfl rfl rfl ?_; refine Qv rfl rfl rfl ?_; refine Qj (hK _ _ (Qz (Qy ?_))); clear hK K; refine Qx (fun K hK => ?_); refine Qq rfl rfl rfl ?_; refine Qv rfl rfl rfl ?_; refine Qj (hK _ _ (Qz (Q2 ?_))); clear hK K)
    refine Q1 [_] rfl (QZ rfl QX) (by congr 1; have : n.natAbs = 9223372036854775808 := by omega
                                      rw [this]; rfl) rfl
theorem gomagnitude : InGo Tryz.prog 114 := InGo.of Tryz.func114 (by kernel_rfl) (by kernel_rfl)
theorem product_ok (a b : Nat) (h : (limbs a).length + (limbs b).length ≤ 256) : Ok Tryz.prog 116 [natC a, natC b] (natC (a * b)) := by
  refine Ok.enter Tryz.func116 J _ Tryz.ntmps116 J ?_
  intro S w; refine Qy (Qx fun K hK => ?_); refine Qv J J J (Qj (hK _ _ (Qz (Qy ?_)))); clear hK K; refine Qx (fun K hK => ?_); refine Qq J J J (Qq J J J (QQ goMul (Mul_ok a b h) J J J J (Qq J J J (QY J J J J (QY J J J J (Qv J J J (Qv J J J (Qj (hK _ _ (Qz (Qy ?_))))))))))); clear hK K; refine Qx (fun K hK => ?_); refine Qq J J J (Qv J J J (Qj (hK _ _ (Qz (Q2 ?_))))); clear hK K; refine Q1 [_] rfl (QZ J QX) J J
theorem goproduct : InGo Tryz.prog 116 := InGo.of Tryz.func116 (by kernel_rfl) (by kernel_rfl)
def sumN (n1 : Bool) (a : Nat) (n2 : Bool) (b : Nat) : Nat := if n1 = n2 then a + b else if a < b then b - a else a - b
def sumS (n1 : Bool) (a : Nat) (n2 : Bool) (b : Nat) : Bool := if n1 = n2 then n1 else if a < b then n2 else n1
set_option maxHeartbeats 2000000 in
theorem sum_ok (n1 : Bool) (a : Nat) (n2 : Bool) (b : Nat) (ha : (limbs a).length ≤ 200) (hb : (limbs b).length ≤ 200) : Ok Tryz.prog 117 [boolC n1, natC a, boolC n2, natC b] (.fr (tupT [boolC (sumS n1 a n2 b), natC (sumN n1 a n2 b)])) := by
  refine Ok.enter Tryz.func117 J _ Tryz.ntmps117 J ?_
  intro S w; refine Qy (Qx fun K hK => ?_); refine Qv J J J (Qv J J J (Qj (hK _ _ (Qz (Qy (Qy ?_)))))); clear hK K; refine Qx (fun K hK => ?_); refine Qq J J J (Qq J J J (Ops.beq J J J uBool J (Qj (hK _ _ (Qz ?_))))); clear hK K; refine Za J (fun h => ?_) (fun h => ?_)
  · have h' : n1 = n2 := by simpa using h
    refine Qy (Qx fun K hK => ?_); refine Qq J J J (Qq J J J (QQ goAdd (Add_list _ _ ha hb (X2 _) (X2 _)) J J J J ?_)); rw [Xf, Xf, show ((a : Int) + b).toNat = a + b by omega]; refine Qq J J J (QY J J J J (QY J J J J (Qv J J J (Qv J J J (Qj (hK _ _ (Qz (Qy ?_)))))))); clear hK K; refine Qx (fun K hK => ?_); refine Qq J J J (Qq J J J (Qv J J J (Qv J J J (Qj (hK _ _ (Qz (Q2 (QW ?_)))))))); clear hK K; refine Q1 [_, _] rfl (QZ J (QZ J QX)) (by simp only [sumN, sumS, if_pos h']; rfl) J
  · have h' : ¬ n1 = n2 := by simpa using h
    refine QU (Qz (Qy (Qy (Qx fun K hK => ?_)))); refine Qq J J J (Qq J J J (QQ goCompare (Compare_ok a b (by omega) (by omega)) J J J J ?_)); refine Qw ilss J J J J (Qj (hK _ _ (Qz ?_))); clear hK K; refine QK J (fun h3 => ?_) (fun h3 => ?_)
    · have hlt : a < b := by
        rw [cmpI_eq] at h3; split at h3
        · omega
        · split at h3 <;> omega
      refine Qx (fun K hK => ?_); refine Qq J J J (Qq J J J (Qq J J J (Qv J J J (Qv J J J (Qv J J J (Qj (hK _ _ (Qz (Qy ?_))))))))); clear hK K; refine Qx (fun K hK => ?_); refine Qq J J J (Qq J J J (QQ goSub (Sub_ok b a (by omega) (by omega)) J J J J ?_)); refine Qq J J J (QY J J J J (QY J J J J (Qv J J J (Qv J J J (Qj (hK _ _ (Qz (Qy ?_)))))))); clear hK K; refine Qx (fun K hK => ?_); refine Qq J J J (Qq J J J (Qv J J J (Qv J J J (Qj (hK _ _ (Qz (Q2 ?_))))))); clear hK K; refine Q1 [_, _] rfl (QZ J (QZ J QX)) (by simp only [sumN, sumS, if_neg h', if_pos hlt]; rfl) J
    · have hlt : ¬ a < b := by
        intro hl; rw [cmpI_eq, if_pos (by omega)] at h3; omega
      refine QU (Qz (Qy (Qx fun K hK => ?_))); refine Qq J J J (Qq J J J (QQ goSub (Sub_ok a b (by omega) (by omega)) J J J J ?_)); refine Qq J J J (QY J J J J (QY J J J J (Qv J J J (Qv J J J (Qj (hK _ _ (Qz (Qy ?_)))))))); clear hK K; refine Qx (fun K hK => ?_); refine Qq J J J (Qq J J J (Qv J J J (Qv J J J (Qj (hK _ _ (Qz (Q2 ?_))))))); clear hK K; refine Q1 [_, _] rfl (QZ J (QZ J QX)) (by simp only [sumN, sumS, if_neg h', if_neg hlt]; rfl) J
theorem gosum : InGo Tryz.prog 117 := InGo.of Tryz.func117 (by kernel_rfl) (by kernel_rfl)
def redF (neg : Bool) (a b : Nat) : Fr := ⟨neg && decide (a / Nat.gcd a b ≠ 0), a / Nat.gcd a b, b / Nat.gcd a b⟩
set_option maxHeartbeats 2000000 in
theorem reduced_small (neg : Bool) (a b : Nat) (h0 : 0 < b) (hb : b < 1073741824) (hl : (limbs a).length ≤ 256) : Ok Tryz.prog 113 [boolC neg, natC a, natC b] (fracC (redF neg a b)) := by
  have hg0 : 0 < Nat.gcd a b := Nat.gcd_pos_of_pos_right _ h0; have hg1 : Nat.gcd a b ≤ b := Nat.gcd_le_right _ h0; have hlb : (limbs b).length ≤ 1 := Qg (k := 1) (by omega)
  refine Ok.enter Tryz.func113 J _ Tryz.ntmps113 J ?_
  intro S w; have e0 : redF neg a b = ⟨neg && decide (a / Nat.gcd a b ≠ 0), a / Nat.gcd a b, b / Nat.gcd a b⟩ := rfl; rw [e0]; clear e0; have h1 := Gcd_small a b hb hl; generalize Nat.gcd a b = g at *; refine Qy (Qx fun K hK => ?_); refine Qf 0 J J zvFrac J J J (Qj (hK _ _ (Qz (Qy ?_)))); clear hK K; refine Qx (fun K hK => ?_); refine Qq J J J (Qq J J J (QQ goGcd h1 J J J J (Qv J J J (Qj (hK _ _ (Qz (Qy ?_))))))); clear hK K; refine Qx (fun K hK => ?_); refine Qq J J J (Qq J J J (QQ goDivMod (DivMod_small a g hg0 (by omega) hl) J J J J ?_)); refine Qq J J J (QY J J J J (QY J J J J (QY J J J J (Qv J J J (Qv J J J (Qv J J J (Qj (hK _ _ (Qz (Qy ?_)))))))))); clear hK K; refine Qx (fun K hK => ?_); refine Qq J J J (Qq J J J (QQ goDivMod (DivMod_small b g hg0 (by omega) (by omega)) J J J J ?_)); refine Qq J J J (QY J J J J (QY J J J J (QY J J J J (Qv J J J (Qv J J J (Qv J J J (Qj (hK _ _ (Qz (Qy ?_)))))))))); clear hK K; refine Qx (fun K hK => ?_); refine Qq J J J (Qq J J J (Zk 32 J (fun h => ?_) (fun h => ?_)))
  · refine Qq J J J (Q7 J J sNat.und (List.length_map ..) J (Qw igtr J J J J (Qc J J J J (Qq J J J (Qq J J J (Xk J bFrac J (.one J J J J (.one J J J J (.one J J J J .nil))) J (Qa 3 J J J J J szFrac J J (Qj (hK _ _ (Qz (Q2 ?_))))))))))); clear hK K; refine Q1 [_] rfl (Qd (n := 3) J J Xy J QX) (by rw [← limbs_len_posI, h]; rfl) J
  · refine Qk J J J (Qk J J J (Qk J J J (Q6 J J J J (Qq J J J (Qq J J J (Xk J bFrac J (.one J J J J (.one J J J J (.one J J J J .nil))) J (Qa 3 J J J J J szFrac J J (Qj (hK _ _ (Qz (Q2 ?_))))))))))); clear hK K; refine Q1 [_] rfl (Qd (n := 3) J J Xy J QX) (by rw [h]; rfl) J
theorem goreduced : InGo Tryz.prog 113 := InGo.of Tryz.func113 (by kernel_rfl) (by kernel_rfl)
theorem checked_ok (f : Fr) (hx : (limbs f.num).length ≤ 64) (hy : (limbs f.den).length ≤ 64) (hd : 0 < f.den) (hn : f.neg = true → f.num ≠ 0) : Ok Tryz.prog 115 [fracC f] (.fr (tupT [fracC f, intC 0])) := by
  refine Ok.enter Tryz.func115 J _ Tryz.ntmps115 J ?_
  intro S w
  have hv : fvalidL f.neg (limbs f.num) (limbs f.den) = true := by
    unfold fvalidL; rw [validL_limbs (by omega), validL_limbs (by omega)]; have := limbs_len_pos (n := f.den); have := limbs_len_pos (n := f.num); cases hh : f.neg
    · simp; omega
    · have := hn hh; simp; constructor
      · omega
      · intro h; exact this (limbs_nil h)
  have h1 := FValid_list f.neg (limbs f.num) (limbs f.den) (by omega) (by omega); rw [hv] at h1; refine Qy (Qx fun K hK => ?_); refine XZ 0 J J J J J J J (Qf 1 J J zvFrac J J J (Qv J J J (Qj (hK _ _ (Qz (Qy (Qy ?_))))))); clear hK K; refine Qx (fun K hK => ?_); refine Qt (n := 3) J J J J J Xy J (QQ goFValid h1 J J J J (Xj J J J (Qj (hK _ _ (Qz (XY J (QU (Qz (Qy ?_))))))))); clear hK K; refine Qx (fun K hK => ?_); refine Qt (n := 3) J J J J J Xy J (Qa 3 J J J J J szFrac J J (Qv J J J (Qj (hK _ _ (Qz (Q2 ?_)))))); clear hK K; refine Q1 [_, _] rfl (Qd (n := 3) J J Xy J (QZ J QX)) J J
theorem gochecked : InGo Tryz.prog 115 := InGo.of Tryz.func115 (by kernel_rfl) (by kernel_rfl)
end Go.Proofs.YtdhmbgogmoaofaaGreat
namespace Go.Proofs.YtdhmbgogmoaofaaGreat
open Go.Own Go.Limbs
def sg (n : Bool) (a : Nat) : Int := if n then -(a : Int) else a
def ofQ (q : Rat) : Fr := ⟨decide (q.num < 0), q.num.natAbs, q.den⟩
abbrev ratC (q : Rat) : CT := fracC (ofQ q)
theorem sg_natAbs (x : Int) : sg (decide (x < 0)) x.natAbs = x := by
  unfold sg; split
  · rename_i h; simp at h; omega
  · rename_i h; simp at h; omega
theorem natAbs_sg (n : Bool) (a : Nat) : (sg n a).natAbs = a := by unfold sg; split <;> omega
theorem sg_mul (n : Bool) (a b : Nat) : sg n (a * b) = sg n a * b := by
  unfold sg; split
  · rw [Int.natCast_mul, Int.neg_mul]
  · rw [Int.natCast_mul]
theorem ofQ_sg (q : Rat) : sg (ofQ q).neg (ofQ q).num = q.num := sg_natAbs _
theorem redF_q (n : Bool) (a b : Nat) (hb : 0 < b) : redF n a b = ofQ (mkRat (sg n a) b) := by
  have hb' : b ≠ 0 := by omega
  have hg : 0 < Nat.gcd a b := Nat.gcd_pos_of_pos_right _ hb; rw [Rat.mkRat_def, dif_neg hb', Rat.normalize_eq]; unfold redF ofQ; simp only [natAbs_sg]; have hd : (Nat.gcd a b : Int) ∣ (a : Int) := Int.natCast_dvd_natCast.mpr (Nat.gcd_dvd_left a b)
  have e1 : (sg n a / (Nat.gcd a b : Int)) = sg n (a / Nat.gcd a b) := by
    unfold sg; split
    · rw [Int.neg_ediv_of_dvd hd, Int.natCast_ediv]
    · rw [Int.natCast_ediv]
  rw [e1, natAbs_sg]
  congr 1
  generalize a / Nat.gcd a b = c; unfold sg; cases n
  · simp
  · show (true && decide (c ≠ 0)) = decide (-(c : Int) < 0); rw [Bool.true_and, decide_eq_decide]; omega
theorem sum_sg (n1 : Bool) (a : Nat) (n2 : Bool) (b : Nat) : sg (sumS n1 a n2 b) (sumN n1 a n2 b) = sg n1 a + sg n2 b := by
  unfold sumS sumN sg
  by_cases h : a < b <;> cases n1 <;> cases n2 <;> simp [h] <;> omega
theorem from_redF (n d : Int) (hd : d ≠ 0) : redF (decide (n < 0) != decide (d < 0)) n.natAbs d.natAbs = ofQ (Rat.divInt n d) := by
  rw [redF_q _ _ _ (by omega)]
  congr 1
  have e : sg (decide (n < 0) != decide (d < 0)) n.natAbs = if d < 0 then -n else n := by
    unfold sg
    by_cases h1 : n < 0 <;> by_cases h2 : d < 0 <;> simp [h1, h2] <;> omega
  rw [e]; rcases d with d | d
  · rw [if_neg (by simp)]; rfl
  · rw [if_pos (by omega)]; show mkRat (-n) (d + 1) = Rat.normalize (-n) (d + 1) (by omega); rw [Rat.normalize_eq_mkRat]
attribute [local irreducible] Go.Own.Fin Ok Ops St
def Sz (a : Nat) : Prop := (limbs a).length ≤ 30
theorem mul_len {a b : Nat} {i j : Nat} (ha : (limbs a).length ≤ i) (hb : (limbs b).length ≤ j) : (limbs (a * b)).length ≤ i + j := by
  have := X7 (a := a) (b := b); omega
theorem sumN_len {n1 n2 : Bool} {a b i : Nat} (ha : (limbs a).length ≤ i) (hb : (limbs b).length ≤ i) : (limbs (sumN n1 a n2 b)).length ≤ i + 1 := by
  have h1 := X8 ha; have h2 := X8 hb
  refine Qg ?_
  rw [Nat.pow_succ]; unfold sumN; generalize 1073741824 ^ i = z at *; split
  · omega
  · split <;> omega
theorem div_len {a b i : Nat} (ha : (limbs a).length ≤ i) : (limbs (a / b)).length ≤ i := Nat.le_trans (XW (Nat.div_le_self a b)) ha
theorem redF_den (n : Bool) (a b : Nat) (h0 : 0 < b) : 0 < (redF n a b).den ∧ (redF n a b).den ≤ b := by
  have hg : 0 < Nat.gcd a b := Nat.gcd_pos_of_pos_right _ h0; exact ⟨Nat.div_pos (Nat.gcd_le_right _ h0) hg, Nat.div_le_self _ _⟩
theorem redF_neg (n : Bool) (a b : Nat) : (redF n a b).neg = true → (redF n a b).num ≠ 0 := by
  unfold redF; generalize a / Nat.gcd a b = c; simp
theorem dne (p q : Bool) : decide (p ≠ q) = (p != q) := by cases p <;> cases q <;> rfl
set_option maxHeartbeats 2000000 in
theorem FFrom_ok (n d : Int) (h1 : -9223372036854775808 ≤ n) (h2 : n ≤ 9223372036854775807) (h3 : -1073741824 < d) (h4 : d < 1073741824) (h0 : d ≠ 0) : Ok Tryz.prog 58 [intC n, intC d] (.fr (tupT [ratC (Rat.divInt n d), intC 0])) := by
  have hl : (limbs n.natAbs).length ≤ 3 := Qg (k := 3) (by omega); rw [show ratC (Rat.divInt n d) = fracC (redF (decide (n < 0) != decide (d < 0)) n.natAbs d.natAbs) from by rw [from_redF n d h0]]
  refine Ok.enter Tryz.func58 J _ Tryz.ntmps58 J ?_
  intro S w; refine Qy (Qx fun K hK => ?_); refine Qf 0 J J zvFrac J J J (Qv J J J (Qj (hK _ _ (Qz (Qy (Qy ?_)))))); clear hK K; refine Qx (fun K hK => ?_); refine Qq J J J (Qw ieql J J J J (Qj (hK _ _ (Qz ?_)))); clear hK K; refine QK J (fun h => absurd h h0) (fun h => ?_); refine QU (Qz (Qy (Qx fun K hK => ?_))); refine Qq J J J (Qw ilss J J J J (Qq J J J (Qw ilss J J J J (Ys J J J uBool J ?_)))); rw [dne]; refine Qq J J J (QQ gomagnitude (magnitude_ok n h1 h2) J J J J (Qq J J J (QQ gomagnitude (magnitude_ok d (by omega) (by omega)) J J J J ?_)))
  refine QQ goreduced (reduced_small _ n.natAbs d.natAbs (by omega) (by omega) (by omega)) J J J J ?_
  refine Qa 3 J J J J J szFrac J J (Qv J J J (Qj (hK _ _ (Qz (Q2 ?_))))); clear hK K; refine Q1 [_, _] rfl (Qd (n := 3) J J Xy J (QZ J QX)) J J
theorem goFFrom : InGo Tryz.prog 58 := InGo.of Tryz.func58 (by kernel_rfl) (by kernel_rfl)
theorem goFCompare : InGo Tryz.prog 65 := InGo.of Tryz.func65 (by kernel_rfl) (by kernel_rfl)
theorem goFAdd : InGo Tryz.prog 60 := InGo.of Tryz.func60 (by kernel_rfl) (by kernel_rfl)
theorem goFMul : InGo Tryz.prog 59 := InGo.of Tryz.func59 (by kernel_rfl) (by kernel_rfl)
attribute [local irreducible] OkF
set_option maxHeartbeats 2000000 in
theorem DivMod_less (a b : Nat) (hab : a < b) (hl : (limbs b).length ≤ 256) : Ok Tryz.prog 151 [natC a, natC b] (.fr (tupT [natC (a / b), natC (a % b), intC 0])) := by
  have hla : (limbs a).length ≤ (limbs b).length := XW (by omega)
  have hlb : 0 < (limbs b).length := by
    rcases Nat.eq_zero_or_pos (limbs b).length with h | h
    · have := limbs_nil (List.eq_nil_of_length_eq_zero h); omega
    · exact h
  refine Ok.enter Tryz.func151 J _ Tryz.ntmps151 J ?_
  intro S w; refine Qy (Qx fun K hK => ?_); refine Qv J J J (Qv J J J (Qv J J J (Qj (hK _ _ (Qz (Qy ?_)))))); clear hK K; refine Qx (fun K hK => ?_); refine Qq J J J (QQ gotrim (trim_ok _ (by omega)) J J J J ?_); rw [trim_of_limbs]; refine Qv J J J (Qj (hK _ _ (Qz (Qy ?_)))); clear hK K; refine Qx (fun K hK => ?_); refine Qq J J J (Q7 J J sNat.und (List.length_map ..) J (Qv J J J (Qj (hK _ _ (Qz (Qy (Q0 (Qy ?_)))))))); clear hK K; refine Qx (fun K hK => ?_); refine Qq J J J (Qw ieql J J J J (Qv J J J (Qj (hK _ _ (Qz ?_))))); clear hK K; refine QK J (fun h => by exfalso; omega) (fun h => ?_); clear h; refine Qy (Qx fun K hK => ?_); refine Qq J J J (Qq J J J (QQ goCompare (Compare_ok a b (by omega) (by omega)) J J J J ?_)); refine Qw ilss J J J J (Qv J J J (Qj (hK _ _ (Qz ?_)))); clear hK K; refine QK J (fun h => ?_) (fun h => ?_)
  · refine Qy (Qx fun K hK => ?_); refine Qq J J J (QQ goClone (Clone_ok _ (by omega)) J J J J ?_); refine Qv J J J (Qv J J J (Qv J J J (Qj (hK _ _ (Qz (Q2 (Qe (QW ?_)))))))); clear hK K; rw [Nat.div_eq_of_lt hab, Nat.mod_eq_of_lt hab, natC_zero]; refine Q1 [_, _, _] rfl (AllRes.nilS 1 J (QZ J (QZ J QX))) J J
  · exfalso; apply h; rw [cmpI_eq, if_pos (by omega)]; decide
theorem DivMod_ok (a b : Nat) (hb : 0 < b) (hla : (limbs a).length ≤ 256) (hlb : (limbs b).length ≤ 256) : Ok Tryz.prog 151 [natC a, natC b] (.fr (tupT [natC (a / b), natC (a % b), intC 0])) := by
  by_cases h : a < b
  · exact DivMod_less a b h hlb
  · by_cases h2 : 2 ≤ (limbs b).length
    · exact DivMod_big a b h2 (by omega) hla
    · refine DivMod_small a b hb ?_ hla
      have := X8 (n := b) (k := 1) (by omega)
      simpa using this
set_option maxHeartbeats 2000000 in
theorem Gcd_ok (a b : Nat) (hla : (limbs a).length ≤ 256) (hlb : (limbs b).length ≤ 256) : Ok Tryz.prog 150 [natC a, natC b] (natC (Nat.gcd a b)) := by
  refine Ok.enter Tryz.func150 J _ Tryz.ntmps150 J ?_
  intro S w; refine Qy (Qx fun K hK => ?_); refine Qv J J J (Qj (hK _ _ (Qz (Qy (Qy ?_))))); clear hK K; refine Qx (fun K hK => ?_); refine Qq J J J (QQ goClone (Clone_ok _ (by omega)) J J J J ?_); refine Qq J J J (QQ goClone (Clone_ok _ (by omega)) J J J J ?_); refine Qv J J J (Qv J J J (Qj (hK _ _ (Qz (Q0 ?_))))); clear hK K
  refine Xq (α := Nat × Nat) (fun s => (limbs s.1).length ≤ 256 ∧ (limbs s.2).length ≤ 256 ∧ Nat.gcd s.1 s.2 = Nat.gcd a b)
    (fun s => [(0, .ct (natC s.1)), (1, .ct (natC s.2))]) (fun _ => []) (fun s => s.2) (a, b) ⟨hla, hlb, rfl⟩ (by exact Qu J ⟨rfl, rfl, trivial⟩) ?_
  rintro ⟨p, q⟩ ⟨hp, hq, hg⟩
  dsimp only at hq hp hg ⊢; refine Qy (Qy (Qx fun K hK => ?_)); refine Qq J J J (Q7 J J sNat.und (List.length_map ..) J (Qw igtr J J J J (Qj (hK _ _ (Qz ?_))))); clear hK K; refine QK J (fun h => ?_) (fun h => ?_)
  · have hq0 : 0 < q := by
      rcases Nat.eq_zero_or_pos q with h0 | h0
      · subst h0; rw [limbs_zero] at h; simp at h
      · exact h0
    refine QU (Qz (Q0 (Qy (Qx fun K hK => ?_)))); refine Qq J J J (Qq J J J (QQ goDivMod (DivMod_ok p q hq0 hp hq) J J J J (Qq J J J (QY J J J J (QY J J J J (QY J J J J (Qv J J J (Qv J J J (Qv J J J (Qj (hK _ _ (Qz (Qy (Qy ?_)))))))))))))); clear hK K; refine Qx (fun K hK => ?_); refine Qq J J J (Qw ineq J J J J (Qj (hK _ _ (Qz (XY J (QU (Qz ?_))))))); clear hK K; refine Qx (fun K hK => ?_); refine Qq J J J (Qq J J J (Qv J J J (Qv J J J (Qj (hK _ _ (X6 (Q4 ?_))))))); clear hK K; have hm := Nat.mod_lt p hq0; refine Qb (q, p % q) hm ⟨hq, ?_, ?_⟩ (by exact Qu J ⟨rfl, rfl, trivial⟩)
    · have := XW (Nat.le_of_lt hm); dsimp only; omega
    · dsimp only; rw [← hg, Nat.gcd_comm, ← Nat.gcd_rec, Nat.gcd_comm]
  · have hq0 : q = 0 := limbs_nil (List.eq_nil_of_length_eq_zero (by omega))
    have e : p = Nat.gcd a b := by rw [← hg, hq0, Nat.gcd_zero_right]
    rw [← e]; refine Qr (Qz (Qy (Qx fun K hK => ?_))); refine Qq J J J (Qv J J J (Qj (hK _ _ (Qz (Q2 ?_))))); clear hK K; refine Q1 [_] rfl (QZ J QX) J J
set_option maxHeartbeats 2000000 in
theorem reduced_ok (neg : Bool) (a b : Nat) (h0 : 0 < b) (hla : (limbs a).length ≤ 256) (hlb : (limbs b).length ≤ 256) : Ok Tryz.prog 113 [boolC neg, natC a, natC b] (fracC (redF neg a b)) := by
  have hg0 : 0 < Nat.gcd a b := Nat.gcd_pos_of_pos_right _ h0; have hg1 : Nat.gcd a b ≤ b := Nat.gcd_le_right _ h0; have hlg := XW hg1
  refine Ok.enter Tryz.func113 J _ Tryz.ntmps113 J ?_
  intro S w; have e0 : redF neg a b = ⟨neg && decide (a / Nat.gcd a b ≠ 0), a / Nat.gcd a b, b / Nat.gcd a b⟩ := rfl; rw [e0]; clear e0; have h1 := Gcd_ok a b hla hlb; generalize Nat.gcd a b = g at *; refine Qy (Qx fun K hK => ?_); refine Qf 0 J J zvFrac J J J (Qj (hK _ _ (Qz (Qy ?_)))); clear hK K; refine Qx (fun K hK => ?_); refine Qq J J J (Qq J J J (QQ goGcd h1 J J J J (Qv J J J (Qj (hK _ _ (Qz (Qy ?_))))))); clear hK K; refine Qx (fun K hK => ?_); refine Qq J J J (Qq J J J (QQ goDivMod (DivMod_ok a g hg0 hla (by omega)) J J J J ?_)); refine Qq J J J (QY J J J J (QY J J J J (QY J J J J (Qv J J J (Qv J J J (Qv J J J (Qj (hK _ _ (Qz (Qy ?_)))))))))); clear hK K; refine Qx (fun K hK => ?_); refine Qq J J J (Qq J J J (QQ goDivMod (DivMod_ok b g hg0 hlb (by omega)) J J J J ?_)); refine Qq J J J (QY J J J J (QY J J J J (QY J J J J (Qv J J J (Qv J J J (Qv J J J (Qj (hK _ _ (Qz (Qy ?_)))))))))); clear hK K; refine Qx (fun K hK => ?_); refine Qq J J J (Qq J J J (Zk 32 J (fun h => ?_) (fun h => ?_)))
  · refine Qq J J J (Q7 J J sNat.und (List.length_map ..) J (Qw igtr J J J J (Qc J J J J (Qq J J J (Qq J J J (Xk J bFrac J (.one J J J J (.one J J J J (.one J J J J .nil))) J (Qa 3 J J J J J szFrac J J (Qj (hK _ _ (Qz (Q2 ?_))))))))))); clear hK K; refine Q1 [_] rfl (Qd (n := 3) J J Xy J QX) (by rw [← limbs_len_posI, h]; rfl) J
  · refine Qk J J J (Qk J J J (Qk J J J (Q6 J J J J (Qq J J J (Qq J J J (Xk J bFrac J (.one J J J J (.one J J J J (.one J J J J .nil))) J (Qa 3 J J J J J szFrac J J (Qj (hK _ _ (Qz (Q2 ?_))))))))))); clear hK K; refine Q1 [_] rfl (Qd (n := 3) J J Xy J QX) (by rw [h]; rfl) J
theorem goReduce : InGo Tryz.prog 135 := InGo.of Tryz.func135 (by kernel_rfl) (by kernel_rfl)
theorem Reduce_ok (f : Fr) (h0 : 0 < f.den) (hla : (limbs f.num).length ≤ 256) (hlb : (limbs f.den).length ≤ 256) : Ok Tryz.prog 135 [fracC f] (fracC (redF f.neg f.num f.den)) := by
  refine Ok.enter Tryz.func135 J _ Tryz.ntmps135 J ?_
  intro S w; refine Qy (Qx fun K hK => ?_); refine XZ 0 J J J J J J J (Qf 1 J J zvFrac J J J (Qj (hK _ _ (Qz (Qy ?_))))); clear hK K; refine Qx (fun K hK => ?_); refine QV J J J fF0 J (QJ J J J J J lBool J (QV J J J fF1 J (QJ J J J J J lNat J (QV J J J fF2 J (QJ J J J J J lNat J (QQ goreduced (reduced_ok f.neg f.num f.den h0 hla hlb) J J J J (Qa 3 J J J J J szFrac J J (Qj (hK _ _ (Qz (Q2 ?_))))))))))); clear hK K; refine Q1 [_] rfl (Qd (n := 3) J J Xy J QX) J J
def qv (f : Fr) : Rat := mkRat (sg f.neg f.num) f.den
theorem Yw (q : Rat) : qv (ofQ q) = q := by unfold qv; rw [ofQ_sg]; exact Rat.mkRat_self q
theorem redF_add (f h : Fr) (h1 : 0 < f.den) (h2 : 0 < h.den) : redF (sumS f.neg (f.num * h.den) h.neg (h.num * f.den)) (sumN f.neg (f.num * h.den) h.neg (h.num * f.den)) (f.den * h.den) = ofQ (qv f + qv h) := by
  rw [redF_q _ _ _ (Nat.mul_pos h1 h2), sum_sg, sg_mul, sg_mul]; unfold qv; rw [Rat.mkRat_add_mkRat _ _ (by omega) (by omega)]
theorem redF_mul (f h : Fr) (h1 : 0 < f.den) (h2 : 0 < h.den) : redF (f.neg != h.neg) (f.num * h.num) (f.den * h.den) = ofQ (qv f * qv h) := by
  rw [redF_q _ _ _ (Nat.mul_pos h1 h2)]; unfold qv; rw [Rat.mkRat_mul_mkRat]
  congr 2
  cases f.neg <;> cases h.neg <;> simp [sg, Int.natCast_mul, Int.neg_mul, Int.mul_neg]
set_option maxHeartbeats 2000000 in
theorem FCompare_gen (f h : Fr) (h1 : (limbs f.num).length ≤ 90) (h2 : (limbs f.den).length ≤ 90) (h3 : (limbs h.num).length ≤ 90) (h4 : (limbs h.den).length ≤ 90) : Ok Tryz.prog 65 [fracC f, fracC h] (.fr (tupT [intC (if sumN f.neg (f.num * h.den) (!h.neg) (h.num * f.den) = 0 then 0 else if sumS f.neg (f.num * h.den) (!h.neg) (h.num * f.den) then -1 else 1), intC 0])) := by
  have l1 := mul_len h1 h4; have l2 := mul_len h3 h2
  refine Ok.enter Tryz.func65 J _ Tryz.ntmps65 J ?_
  intro S w; refine Qy (Qx fun K hK => ?_); refine XZ 0 J J J J J J J (XZ 1 J J J J J J J (Qv J J J (Qv J J J (Qj (hK _ _ (Qz (Qy ?_))))))); clear hK K; refine Xv mixed 21 (.p 0 (.p 2 (.p 4 (.p 7 (.p 10 (.p 12 (.f 1 (.f 3 (.f 5 (.f 8 (.p 9 (.f 11 (.f 13 (.m 6 (.m 14 (.m 15 (.p 16 (.p 17 (.p 18 (.p 19 (.p 20 .done))))))))))))))))))))) (by kernel_rfl) (fun K hK => ?_); refine QV J J J fF0 J (QV J J J fF1 J (QV J J J fF2 J (QV J J J fF0 J (QV J J J fF1 J (QV J J J fF2 J (QJ J J J J J lBool J (QJ J J J J J lNat J (QJ J J J J J lNat J (QJ J J J J J lBool J (Xj J J J (QJ J J J J J lNat J (QJ J J J J J lNat J (QQ goproduct (product_ok f.num h.den (by omega)) J J J J ?_))))))))))))); skip
  refine QQ goproduct (product_ok h.num f.den (by omega)) J J J J ?_
  skip
  refine QQ gosum (sum_ok _ _ _ _ (by omega) (by omega)) J J J J ?_
  refine Qq J J J (QY J J J J (QY J J J J (Qv J J J (Qv J J J (Qj (hK _ _ (Qz (Qy (Q0 (Qy ?_)))))))))); clear hK K; refine Qx (fun K hK => ?_); refine Qq J J J (Q7 J J sNat.und (List.length_map ..) J (Qw ieql J J J J (Qv J J J (Qj (hK _ _ (Qz ?_)))))); clear hK K; refine QK J (fun hz => ?_) (fun hz => ?_)
  · have hz' : sumN f.neg (f.num * h.den) (!h.neg) (h.num * f.den) = 0 := limbs_nil (List.eq_nil_of_length_eq_zero (by omega)); refine Qy (Qx fun K hK => ?_); refine Qv J J J (Qv J J J (Qj (hK _ _ (Qz (Q2 (Qe (QW ?_))))))); clear hK K; refine Q1 [_, _] rfl (QZ J (QZ J QX)) (by rw [if_pos hz']; rfl) J
  · have hz' : ¬ sumN f.neg (f.num * h.den) (!h.neg) (h.num * f.den) = 0 := fun e => hz (by rw [e, limbs_zero]; rfl)
    refine Qy (Qx fun K hK => ?_); refine Qq J J J (Qv J J J (Qj (hK _ _ (Qz ?_)))); clear hK K; refine Za J (fun hs => ?_) (fun hs => ?_)
    · refine Qy (Qx fun K hK => ?_); refine Qv J J J (Qv J J J (Qj (hK _ _ (Qz (Q2 (Qe (QW ?_))))))); clear hK K; refine Q1 [_, _] rfl (QZ J (QZ J QX)) (by rw [if_neg hz', hs]; rfl) J
    · refine QU (Qz (Qy (Qx fun K hK => ?_))); refine Qv J J J (Qv J J J (Qj (hK _ _ (Qz (Q2 ?_))))); clear hK K; refine Q1 [_, _] rfl (QZ J (QZ J QX)) (by rw [if_neg hz', hs]; rfl) J
set_option maxHeartbeats 2000000 in
theorem FMul_gen (f h : Fr) (hs1 : (limbs f.num).length + (limbs h.num).length ≤ 64) (hs2 : (limbs f.den).length + (limbs h.den).length ≤ 64) (d1 : 0 < f.den) (d2 : 0 < h.den) :
    Ok Tryz.prog 59 [fracC f, fracC h] (.fr (tupT [ratC (qv f * qv h), intC 0])) := by
  have hp := Nat.mul_pos d1 d2; have l3 := X7 (a := f.num) (b := h.num); have l8 := X7 (a := f.den) (b := h.den); have l4 := redF_den (f.neg != h.neg) (f.num * h.num) _ hp; have l5 := redF_neg (f.neg != h.neg) (f.num * h.num) (f.den * h.den); have l6 : (limbs (redF (f.neg != h.neg) (f.num * h.num) (f.den * h.den)).num).length ≤ 64 := div_len (Nat.le_trans l3 hs1); have l7 := XW l4.2; have hr := reduced_ok (f.neg != h.neg) (f.num * h.num) _ hp (by omega) (by omega); show Ok Tryz.prog 59 [fracC f, fracC h] (.fr (tupT [fracC (ofQ (qv f * qv h)), intC 0])); rw [← redF_mul f h d1 d2]
  refine Ok.enter Tryz.func59 J _ Tryz.ntmps59 J ?_
  intro S w; generalize redF (f.neg != h.neg) (f.num * h.num) (f.den * h.den) = rr at *; refine Qy (Qx fun K hK => ?_); refine XZ 0 J J J J J J J (XZ 1 J J J J J J J (Qf 2 J J zvFrac J J J (Qv J J J (Qj (hK _ _ (Qz (Qy ?_))))))); clear hK K; refine Xv mixed 19 (.p 0 (.p 2 (.p 5 (.p 7 (.p 10 (.p 12 (.f 1 (.f 3 (.p 4 (.f 6 (.f 8 (.f 11 (.f 13 (.m 9 (.m 14 (.m 15 (.m 16 (.p 17 (.p 18 (.a 19 (.p 20 .done))))))))))))))))))))) (by kernel_rfl) (fun K hK => ?_); refine QV J J J fF0 J (QV J J J fF0 J (QV J J J fF1 J (QV J J J fF1 J (QV J J J fF2 J (QV J J J fF2 J (QJ J J J J J lBool J (QJ J J J J J lBool J (Ys J J J uBool J ?_)))))))); rw [dne]; refine QJ J J J J J lNat J (QJ J J J J J lNat J (QJ J J J J J lNat J (QJ J J J J J lNat J (QQ goproduct (product_ok f.num h.num (by omega)) J J J J ?_)))); skip
  refine QQ goproduct (product_ok f.den h.den (by omega)) J J J J ?_
  refine QQ goreduced hr J J J J (QQ gochecked (checked_ok rr (by omega) (by omega) l4.1 l5) J J J J ?_); refine QY J J J J (QY J J J J (Qa 3 J J J J J szFrac J J (Qv J J J (Qj (hK _ _ (Qz (Q2 ?_))))))); clear hK K; refine Q1 [_, _] rfl (Qd (n := 3) J J Xy J (QZ J QX)) J J
end Go.Proofs.YtdhmbgogmoaofaaGreat
namespace Go.Own
open Go.RowKit
variable {X : Ctx} {L : AL} {B : BL} {K : Act → World → Prop}
  {x y z : Operand} {d : Nat} {t t2 t' : TypeId} {pos : String} {af : Array Edge} {g : Option (Nat × Bool)}
inductive Ot where
  | done
  | non
  | p (i : Nat) (r : Ot)
  | f (i : Nat) (r : Ot)
  | a (i : Nat) (r : Ot)
  | br (i : Nat) (r : Ot) (o : Ot)
def wpT (P : Program) (l : List Oper) (bb : BSet) (K : Act → World → Prop) : Ot → Act → World → Prop
  | .done, a, w => K a w
  | .non, _, _ => True
  | .p i r, a, w => ∃ v, Yields P l.toArray (nth l i) v a ∧ wpT P l bb K r (a.put (nth l i).dst v) w
  | .f i r, a, w => ∃ v, YieldsIf P l.toArray (fun w' => Fr bb w w') (nth l i) v a ∧ wpT P l bb K r (a.put (nth l i).dst v) w
  | .a i r, a, w => wpO P l.toArray (fun a' w' => wpT P l bb K r a' w') (nth l i) a w
  | .br i r o, a, w => wpO P l.toArray (fun a' w' => Fr bb w w' ∧ wpT P l bb K r a' w') (nth l i) a w ∧ wpT P l bb K o a w
def alts : Ot → List Nat
  | .br i _ o => i :: alts o
  | _ => []
def waitsT (ops : Array Oper) (N i : Nat) : Bool := (List.range ops.size).all fun j => Nat.blt j N || match ops[j]? with
  | some oj => oj.after.any fun e => Region.binds .any e && (e.on == i || match ops[e.on]? with
    | some ok => ok.after.any fun e' => Region.binds .any e' && e'.on == i
    | none => false)
  | none => true
def chkT (ops : Array Oper) (N : Nat) : Bool → Ot → Nat → Array Bool → Bool
  | true, .done, _, listed => (Region.ready .any ops listed).isEmpty
  | true, .p i r, n + 1, listed => (Region.ready .any ops listed).contains i && Region.free .any ops listed i && chkT ops N true r n (listed.setIfInBounds i true)
  | true, .f i r, n + 1, listed => (Region.ready .any ops listed).contains i && Region.free .any ops listed i && waitsT ops N i && chkT ops N true r n (listed.setIfInBounds i true)
  | true, .a i r, n + 1, listed => Region.ready .any ops listed == [i] && !Nat.blt i N && chkT ops N true r n (listed.setIfInBounds i true)
  | tp, .br i r o, n + 1, listed => (!tp || Region.ready .any ops listed == alts (.br i r o)) && Nat.blt i N && chkT ops N true r n (listed.setIfInBounds i true) && chkT ops N false o (n + 1) listed
  | false, .non, _, _ => true
  | _, _, _, _ => false
def Shut (ops : Array Oper) (listed : Array Bool) : Prop := ∀ k ok, ops[k]? = some ok → listed.getD k false = true → ∀ e ∈ ok.after, Region.binds .any e = true → listed.getD e.on false = true
theorem set_true {listed : Array Bool} {i j : Nat} (h : listed.getD j false = true) : (listed.setIfInBounds i true).getD j false = true := by
  by_cases hij : i = j
  · subst hij; rcases Nat.lt_or_ge i listed.size with h' | h'
    · simp [h']
    · simp [h'] at h
  · rw [getD_set_ne false hij]; exact h
theorem Shut.step {ops : Array Oper} {listed : Array Bool} {i : Nat} (h : Shut ops listed) (hr : i ∈ Region.ready .any ops listed) : Shut ops (listed.setIfInBounds i true) := fun k ok hk hl e he hb => by
  by_cases hik : i = k
  · subst hik
    obtain ⟨_, o, ho, hall⟩ := mem_ready.1 hr
    rw [hk] at ho; injection ho with ho; subst ho
    exact set_true (hall e he hb)
  · rw [getD_set_ne false hik] at hl; exact set_true (h k ok hk hl e he hb)
theorem Shut.start (ops : Array Oper) (n : Nat) : Shut ops (Array.replicate n false) := fun k ok _ hl => by
  rw [Array.getD_eq_getD_getElem?, Array.getElem?_replicate] at hl
  split at hl <;> cases hl
end Go.Own
namespace Go.Own
open Go.RowKit
variable {X : Ctx} {L : AL} {B : BL} {ops : Array Oper} {K : Act → World → Prop} {r : Pl} {k : Kd}
  {x y z : Operand} {d : Nat} {t t2 t' : TypeId} {pos : String} {af : Array Edge} {g : Option (Nat × Bool)}
def Sn (S : BSet) (B : BL) (ρ : Nat → Value) : BSet := fun k => S k ∧ ∀ i e, bget B i = some e → blk (ρ i) ≠ some k
structure Hp (S : BSet) (B : BL) (ρ : Nat → Value) (w : World) : Prop where
  ent : ∀ i e, bget B i = some e → e.ok (Sn S B ρ) w (ρ i)
  apart : ∀ i j e e', bget B i = some e → bget B j = some e' → i ≠ j → ∀ g, blk (ρ i) = some g → blk (ρ j) ≠ some g
def slots (S : BSet) (ρ : Nat → Value) (w : World) : List Sl → List Value → Prop
  | [], [] => True
  | s :: ss, v :: vs => s.p S ρ w v ∧ slots S ρ w ss vs
  | _, _ => False
theorem slots.length {S : BSet} {ρ : Nat → Value} {w : World} : ∀ {ss : List Sl} {vs : List Value}, slots S ρ w ss vs → vs.length = ss.length
  | [], [], _ => rfl
  | _ :: _, _ :: _, ⟨_, b⟩ => by simp [slots.length b]
  | [], _ :: _, h => h.elim
  | _ :: _, [], h => h.elim
def argS : Nat → List Sl → AL
  | _, [] => []
  | i, s :: ss => (i, s) :: argS (i + 1) ss
theorem look_argS {S : BSet} {ρ : Nat → Value} {w : World} : ∀ {ss : List Sl} {vs : List Value} {i d : Nat} {s : Sl}, slots S ρ w ss vs → look (argS i ss) d = some s → ∃ v, i ≤ d ∧ vs[d - i]? = some v ∧ s.p S ρ w v
  | [], [], _, _, _, _, hd => by cases hd
  | s :: ss, v :: vs, i, d, s', ⟨a, b⟩, hd => by
    simp only [argS] at hd
    by_cases h : i = d
    · subst h; rw [Z9] at hd; injection hd with hd; subst hd; exact ⟨v, Nat.le_refl _, by simp, a⟩
    · rw [Xs _ _ h] at hd
      obtain ⟨u, h1, h2, h3⟩ := look_argS b hd
      refine ⟨u, by omega, ?_, h3⟩
      obtain ⟨m, hm⟩ : ∃ m, d - i = m + 1 := ⟨d - i - 1, by omega⟩
      rw [hm, List.getElem?_cons_succ, ← h2]; congr 1; omega
  | [], _ :: _, _, _, _, h, _ => h.elim
  | _ :: _, [], _, _, _, h, _ => h.elim
def postM (S : BSet) (w0 : World) (ρ0 : Nat → Value) (B0 : BL) (fx : List Nat) {α : Type} (J : α → Prop) (R : α → Sl) (B1 : α → BL) : Ending → World → Prop := fun e w' =>
  ∃ v q ρ', e = .returned v ∧ J q ∧ (R q).p (Sn S (B1 q) ρ') ρ' w' v ∧ Hp S (B1 q) ρ' w' ∧ (∀ i ∈ fx, isBx (bget (B1 q) i) = true ∧ ρ' i = ρ0 i) ∧
    (∀ i e, bget (B1 q) i = some e → ∀ gb, blk (ρ' i) = some gb → w0.heap.size ≤ gb ∨ ∃ j f, bget B0 j = some f ∧ blk (ρ0 j) = some gb) ∧ Fr (fun k => ∃ j f, bget B0 j = some f ∧ blk (ρ0 j) = some k) w0 w'
def OkM (P : Program) (f : FuncId) (As : List Sl) (B0 : BL) (fx : List Nat) {α : Type} (J : α → Prop) (R : α → Sl) (B1 : α → BL) : Prop :=
  ∀ (S : BSet) (w : World) (ρ : Nat → Value) (vs : List Value), (∀ k, w.heap.size ≤ k → S k) → (∀ i e, bget B0 i = some e → ∀ gb, blk (ρ i) = some gb → S gb) → Hp S B0 ρ w → slots (Sn S B0 ρ) ρ w As vs →
    Calls P f vs.toArray w (postM S w ρ B0 fx J R B1)
abbrev lentM (P : Program) (n : Nat) (S : BSet) (w : World) (B0 : BL) (fx : List Nat) (ρ0 : Nat → Value) : Ctx := { P := P, n := n, S0 := S, w0 := w, bor := fun k => ∃ j f, bget B0 j = some f ∧ blk (ρ0 j) = some k, fix := fx.map fun i => (i, ρ0 i) }
theorem OkM.enter {P : Program} {f : FuncId} {fn : Func} {c : Code} {As : List Sl} {B0 : BL} {fx : List Nat} {α : Type} {J : α → Prop} {R : α → Sl} {B1 : α → BL} (hf : P.funcs[f]? = some fn) (hb : fn.body = some c) (n : Nat) (hn : fn.ntmps = n) (ha : Nat.ble As.length n = true) (hfx : ∀ i ∈ fx, isBx (bget B0 i) = true)
    (h : ∀ S w ρ0, (∀ gb, (lentM P n S w B0 fx ρ0).bor gb → S gb) → St (lentM P n S w B0 fx ρ0) (argS 0 As) B0 c (bodyPost P fn (postM S w ρ0 B0 fx J R B1))) : OkM P f As B0 fx J R B1 := by
  intro S w ρ vs hS hB hH hA; have hl := hA.length; have hle := Nat.le_of_ble_eq_true ha; refine calls_of_wp hf hb (h S w ρ (fun gb ⟨j, f, h1, h2⟩ => hB j f h1 gb h2) _ ρ w ?_); refine ⟨by simp [lentM, hn]; omega, rfl, fun d s hd => ?_, fun i e hi => ⟨hH.ent i e hi, fun gb hgb => .inr ⟨i, e, hi, hgb⟩⟩, hH.apart, ⟨rfl, rfl, rfl, Nat.le_refl _, fun _ _ _ => rfl⟩, hS, fun p hp => ?_⟩
  · obtain ⟨v, h1, h2, h3⟩ := look_argS hA hd; have hlt : d - 0 < vs.length := (List.getElem?_eq_some_iff.1 h2).1
    have : (vs.toArray ++ Array.replicate (fn.ntmps - vs.toArray.size) undef).getD d undef = v := by
      rw [Array.getD_eq_getD_getElem?, Array.getElem?_append_left (by simp; omega)]; simp only [Nat.sub_zero] at h2; simp [h2]
    rw [this]; exact h3
  · obtain ⟨i, hi, rfl⟩ := List.mem_map.1 hp; exact ⟨hfx i hi, rfl⟩
theorem Is.hp {a : Act} {ρ : Nat → Value} {w : World} (h : Is X L B a ρ w) : Hp X.S0 B ρ w := ⟨fun i e hi => (h.ent i e hi).1, h.apart⟩
section ret
variable {P : Program} {n : Nat} {S : BSet} {w0 : World} {B0 : BL} {fx : List Nat} {ρ0 : Nat → Value} {α : Type} {J : α → Prop} {R : α → Sl} {B1 : α → BL}
theorem Is.postM {a : Act} {ρ : Nat → Value} {w : World} {v : Value} (hI : Is (lentM P n S w0 B0 fx ρ0) L B a ρ w) (q : α) (hB : ∀ j, bget (B1 q) j = bget B j) (hJ : J q) (hv : (R q).p (Sof (lentM P n S w0 B0 fx ρ0) B ρ) ρ w v) : postM S w0 ρ0 B0 fx J R B1 (.returned v) w := by
  have hI' := hI.bext hB
  have e : Sn S (B1 q) ρ = Sof (lentM P n S w0 B0 fx ρ0) B ρ := by
    funext k
    exact propext ⟨fun h => ⟨h.1, fun i e hi => h.2 i e (by rw [hB]; exact hi)⟩, fun h => ⟨h.1, fun i e hi => h.2 i e (by rw [← hB]; exact hi)⟩⟩
  refine ⟨v, q, ρ, rfl, hJ, by rw [e]; exact hv, hI'.hp, fun i hi => ?_, fun i e hi gb hgb => (hI'.ent i e hi).2 gb hgb, hI.frame⟩; have := hI'.fixd (i, ρ0 i) (List.mem_map.2 ⟨i, hi, rfl⟩); exact this
theorem Fin.retMG {fn : Func} {cs : List CT} {rv : List ResultVar} (q : α) (hfn : fn.results = rv.toArray) (hr : AllRes (lentM P n S w0 B0 fx ρ0) L B rv cs) (hR : R q = .ct (retC cs)) (hB : ∀ j, bget (B1 q) j = bget B j) (hJ : J q) :
    ∀ a ρ w, Is (lentM P n S w0 B0 fx ρ0) L B a ρ w → a.defers = [] ∧ ∃ v, (results fn a.tmps).run P w = .ok v w ∧ Own.postM S w0 ρ0 B0 fx J R B1 (.returned v) w := fun a ρ w hI => by
  obtain ⟨v, h1, h2⟩ := results_run hfn hr hI
  exact ⟨hI.defers, v, h1, hI.postM q hB hJ (by rw [hR]; exact h2)⟩
theorem Y3 {fn : Func} {cs : List CT} (q : α) (rv : List ResultVar) (hfn : fn.results = rv.toArray) (hr : AllRes (lentM P n S w0 B0 fx ρ0) L B rv cs) (hR : R q = .ct (retC cs)) (hB : ∀ j, bget (B1 q) j = bget B j) (hJ : J q) :
    Fin (lentM P n S w0 B0 fx ρ0) L B (fun a w => bodyPost P fn (Own.postM S w0 ρ0 B0 fx J R B1) .ret a w) := Fin.retMG q hfn hr hR hB hJ
theorem Fin.endM {fn : Func} {cs : List CT} (q : α) (rv : List ResultVar) (hfn : fn.results = rv.toArray) (hr : AllRes (lentM P n S w0 B0 fx ρ0) L B rv cs) (hR : R q = .ct (retC cs)) (hB : ∀ j, bget (B1 q) j = bget B j) (hJ : J q) :
    Fin (lentM P n S w0 B0 fx ρ0) L B (fun a w => bodyPost P fn (Own.postM S w0 ρ0 B0 fx J R B1) .normal a w) := Fin.retMG q hfn hr hR hB hJ
theorem Fin.retMO {fn : Func} {s : Nat} {sl : Sl} (q : α) (hfn : fn.results = #[.tmp s]) (hs : look L s = some sl) (hR : R q = sl) (hB : ∀ j, bget (B1 q) j = bget B j) (hJ : J q) :
    Fin (lentM P n S w0 B0 fx ρ0) L B (fun a w => bodyPost P fn (Own.postM S w0 ρ0 B0 fx J R B1) .ret a w) := by
  have key : ∀ a ρ w, Is (lentM P n S w0 B0 fx ρ0) L B a ρ w → a.defers = [] ∧ ∃ v, (results fn a.tmps).run P w = .ok v w ∧ Own.postM S w0 ρ0 B0 fx J R B1 (.returned v) w := fun a ρ w hI => by
    have h1 := hI.slot s _ hs
    have hrun : (results fn a.tmps).run P w = .ok (a.tmps.getD s undef) w := by
      have he : results fn a.tmps = (do let vs ← fn.results.mapM (resV a.tmps); pure (if h : vs.size = 1 then vs[0] else .tuple vs)) := by
        unfold results
        congr 2
      rw [he, hfn, Array.mapM_eq_mapM_toList, ← bind_pure_comp]; simp only [List.mapM_cons, List.mapM_nil, resV, Sem.run_bind, Sem.run_pure, Result.andThen_ok]; rfl
    exact ⟨hI.defers, _, hrun, hI.postM q hB hJ (by rw [hR]; exact h1)⟩
  exact key
end ret
theorem Zj (A C : BL) (j : Nat) : bget (A ++ C) j = (bget A j).or (bget C j) := by
  induction A with
  | nil => rfl
  | cons p A ih =>
    obtain ⟨i, e⟩ := p; by_cases h : i = j
    · subst h; rw [List.cons_append, Ql, Ql]; rfl
    · rw [List.cons_append, Q3 _ _ h, Q3 _ _ h, ih]
def evS (L : AL) : List Operand → Option (List Sl)
  | [] => some []
  | x :: xs => match ev L x, evS L xs with
    | some s, some ss => some (s :: ss)
    | _, _ => none
theorem Is.evS {a : Act} {ρ : Nat → Value} {w : World} (h : Is X L B a ρ w) : ∀ {xs : List Operand} {ss : List Sl}, Own.evS L xs = some ss → slots (Sof X B ρ) ρ w ss (xs.map a.eval)
  | [], ss, he => by simp only [Own.evS] at he; injection he with he; subst he; trivial
  | x :: xs, ss, he => by
    simp only [Own.evS] at he
    split at he
    · rename_i c cs' h1 h2
      injection he with he; subst he
      exact ⟨h.ev h1, h.evS h2⟩
    · cases he
def Sl.keepN (kp : Nat → Bool) : Sl → Sl
  | .own j => if kp j then .own j else .any
  | .loc j o => if kp j then .loc j o else .any
  | s => s
def keepL (kp : Nat → Bool) : AL → AL
  | [] => []
  | (d, s) :: L => (d, s.keepN kp) :: keepL kp L
theorem look_keepL (kp : Nat → Bool) (L : AL) (d : Nat) : look (keepL kp L) d = (look L d).map (Sl.keepN kp) := by
  induction L with
  | nil => rfl
  | cons x L ih =>
    obtain ⟨k, s⟩ := x; by_cases hk : k = d
    · subst hk; simp [keepL, look]
    · simp only [keepL]; rw [Xs _ _ hk, Xs _ _ hk, ih]
def someB (o : Option Ent) : Bool := o.isSome
set_option maxHeartbeats 1000000 in
theorem Is.afterM {a : Act} {ρ : Nat → Value} {w : World} (hI : Is X L B a ρ w) {B0 C : BL} {fx : List Nat} {α : Type} {R : α → Sl} {B1 : α → BL} (kp : Nat → Bool) (hB : ∀ j, bget B j = bget (B0 ++ C) j) (hC : ∀ j, (bget C j).isSome = true → bget B0 j = none)
    {S : BSet} (hSdef : S = fun k => X.S0 k ∧ ∀ i e, bget C i = some e → blk (ρ i) ≠ some k) {q : α} (hC1 : ∀ j, (bget C j).isSome = true → bget (B1 q) j = none) (hkp : ∀ j, kp j = true → j ∈ fx ∨ bget (B1 q) j = none) (hfix : ∀ p ∈ X.fix, (bget C p.1).isSome = true ∨ p.1 ∈ fx)
    {v : Value} {ρ' : Nat → Value} {w' : World} (hv : (R q).p (Sn S (B1 q) ρ') ρ' w' v) (hH : Hp S (B1 q) ρ' w') (hfx : ∀ i ∈ fx, isBx (bget (B1 q) i) = true ∧ ρ' i = ρ i)
    (hnew : ∀ i e, bget (B1 q) i = some e → ∀ gb, blk (ρ' i) = some gb → w.heap.size ≤ gb ∨ ∃ j f, bget B0 j = some f ∧ blk (ρ j) = some gb) (hF : Fr (fun k => ∃ j f, bget B0 j = some f ∧ blk (ρ j) = some k) w w') (hRk : ∀ j, (R q = .own j ∨ ∃ o, R q = .loc j o) → (bget (B1 q) j).isSome = true) :
    Is X (keepL kp L) (B1 q ++ C) a (fun j => if (bget (B1 q) j).isSome then ρ' j else ρ j) w' ∧ (R q).p (Sof X (B1 q ++ C) (fun j => if (bget (B1 q) j).isSome then ρ' j else ρ j)) (fun j => if (bget (B1 q) j).isSome then ρ' j else ρ j) w' v := by
  have c0 : ∀ j e, bget B0 j = some e → bget B j = some e := fun j e h => by rw [hB, Zj, h]; rfl
  have cC : ∀ j e, bget C j = some e → bget B j = some e := fun j e h => by rw [hB, Zj, hC j (by rw [h]; rfl), h]; rfl
  have split : ∀ j e, bget (B1 q ++ C) j = some e → (bget (B1 q) j = some e) ∨ (bget (B1 q) j = none ∧ bget C j = some e) := fun j e h => by
    rw [Zj] at h
    cases h1 : bget (B1 q) j with
    | none => rw [h1] at h; exact .inr ⟨rfl, h⟩
    | some e1 => rw [h1] at h; exact .inl h
  have r1 : ∀ j e, bget (B1 q) j = some e → (if (bget (B1 q) j).isSome then ρ' j else ρ j) = ρ' j := fun j e h => by rw [h]; rfl
  have r2 : ∀ j, bget (B1 q) j = none → (if (bget (B1 q) j).isSome then ρ' j else ρ j) = ρ j := fun j h => by rw [h]; rfl
  have hSof : Sof X (B1 q ++ C) (fun j => if (bget (B1 q) j).isSome then ρ' j else ρ j) = Sn S (B1 q) ρ' := by
    funext k
    refine propext ⟨fun h => ⟨?_, fun i e hi => ?_⟩, fun h => ⟨?_, fun i e hi => ?_⟩⟩
    · rw [hSdef]; refine ⟨h.1, fun i e hi => ?_⟩; have hn := hC1 i (by rw [hi]; rfl); have := h.2 i e (by rw [Zj, hn]; exact hi); simp only [r2 i hn] at this; exact this
    · have := h.2 i e (by rw [Zj, hi]; rfl); simp only [r1 i e hi] at this; exact this
    · have := h.1; rw [hSdef] at this; exact this.1
    · rcases split i e hi with h1 | ⟨h1, h2⟩
      · simp only [r1 i e h1]; exact h.2 i e h1
      · simp only [r2 i h1]; have := h.1; rw [hSdef] at this; exact this.2 i e h2
  have hKp : Kp (Sof X B ρ) (Sn S (B1 q) ρ') w w' := ⟨hF.size, fun k hk hs => by
    have hn0 : ¬ ∃ j f, bget B0 j = some f ∧ blk (ρ j) = some k := fun ⟨j, f, h1, h2⟩ => hs.2 j f (c0 j f h1) h2
    refine ⟨⟨?_, fun i e hi hbk => ?_⟩, hF.block k hk hn0⟩
    · rw [hSdef]; exact ⟨hs.1, fun i e hi => hs.2 i e (cC i e hi)⟩
    · rcases hnew i e hi k hbk with h1 | h1
      · omega
      · exact hn0 h1⟩
  have hCk : ∀ j e, bget C j = some e → ∀ gb, blk (ρ j) = some gb → gb < w.heap.size ∧ (¬ ∃ i f, bget B0 i = some f ∧ blk (ρ i) = some gb) := fun j e hj gb hgb => by
    refine ⟨hI.lt (cC j e hj) hgb, fun ⟨i, f, h1, h2⟩ => ?_⟩
    have hij : i ≠ j := fun he => by subst he; rw [hC i (by rw [hj]; rfl)] at h1; cases h1
    exact hI.apart i j f e (c0 i f h1) (cC j e hj) hij gb h2 hgb
  refine ⟨⟨hI.size, hI.defers, fun d s hd => ?_, fun i e hi => ?_, fun i j e e' hi hj hij gb hgb => ?_, ⟨hF.os.trans hI.frame.os, hF.tape.trans hI.frame.tape, hF.output.trans hI.frame.output, Nat.le_trans hI.frame.size hF.size, fun k hk hn => ?_⟩, hI.fresh, fun p hp => ?_⟩, ?_⟩
  · rw [look_keepL] at hd
    cases h1 : look L d with
    | none => rw [h1] at hd; cases hd
    | some s0 =>
      rw [h1] at hd
      injection hd with hd
      subst hd; have h2 := hI.slot d s0 h1; rw [hSof]
      have kept : ∀ j, kp j = true → (if (bget (B1 q) j).isSome then ρ' j else ρ j) = ρ j := fun j hj => by
        rcases hkp j hj with h3 | h3
        · have := (hfx j h3).2; split
          · exact this
          · rfl
        · exact r2 j h3
      cases s0 with
      | ct c => exact CT.mono hKp h2
      | any => trivial
      | own j =>
        simp only [Sl.keepN]; split
        · rename_i hj
          show _ = (if (bget (B1 q) j).isSome then ρ' j else ρ j); rw [kept j hj]; exact h2
        · trivial
      | loc j o =>
        simp only [Sl.keepN]; split
        · rename_i hj
          obtain ⟨gb, h3, h4⟩ := h2; exact ⟨gb, by simp only [kept j hj]; exact h3, h4⟩
        · trivial
  · rw [hSof]; rcases split i e hi with h1 | ⟨h1, h2⟩
    · simp only [r1 i e h1]; refine ⟨hH.ent i e h1, fun gb hgb => ?_⟩; rcases hnew i e h1 gb hgb with h3 | ⟨j, f, h3, h4⟩
      · exact .inl (Nat.le_trans hI.frame.size h3)
      · exact (hI.ent j f (c0 j f h3)).2 gb h4
    · simp only [r2 i h1]; have h3 := hI.ent i e (cC i e h2); refine ⟨Ent.keep hKp (fun gb hgb hlt => hF.block gb hlt (hCk i e h2 gb hgb).2) h3.1, h3.2⟩
  · rcases split i e hi with h1 | ⟨h1, h2⟩ <;> rcases split j e' hj with h3 | ⟨h3, h4⟩
    · simp only [r1 i e h1] at hgb; simp only [r1 j e' h3]; exact hH.apart i j e e' h1 h3 hij gb hgb
    · simp only [r1 i e h1] at hgb; simp only [r2 j h3]; intro hgj; have := hCk j e' h4 gb hgj; rcases hnew i e h1 gb hgb with h5 | h5
      · omega
      · exact this.2 h5
    · simp only [r2 i h1] at hgb; simp only [r1 j e' h3]; intro hgj; have := hCk i e h2 gb hgb; rcases hnew j e' h3 gb hgj with h5 | h5
      · omega
      · exact this.2 h5
    · simp only [r2 i h1] at hgb; simp only [r2 j h3]; exact hI.apart i j e e' (cC i e h2) (cC j e' h4) hij gb hgb
  · have hn0 : ¬ ∃ j f, bget B0 j = some f ∧ blk (ρ j) = some k := fun ⟨j, f, h1, h2⟩ => by
      rcases (hI.ent j f (c0 j f h1)).2 k h2 with h3 | h3
      · omega
      · exact hn h3
    rw [hF.block k (Nat.lt_of_lt_of_le hk hI.frame.size) hn0]; exact hI.frame.block k hk hn
  · have h0 := hI.fixd p hp; rcases hfix p hp with h1 | h1
    · have hn := hC1 p.1 h1; refine ⟨?_, ?_⟩
      · rw [Zj, hn]
        have h2 : bget B p.1 = bget C p.1 := by
          cases h3 : bget C p.1 with
          | none => rw [h3] at h1; cases h1
          | some e => exact cC _ _ h3
        rw [← h2]; exact h0.1
      · simp only [r2 p.1 hn]; exact h0.2
    · have h2 := hfx p.1 h1
      have h3 : ∃ e, bget (B1 q) p.1 = some e := by
        cases h4 : bget (B1 q) p.1 with
        | none => rw [h4] at h2; exact absurd h2.1 (by simp [isBx])
        | some e => exact ⟨e, rfl⟩
      obtain ⟨e, h3⟩ := h3; refine ⟨?_, ?_⟩
      · have : bget (B1 q ++ C) p.1 = bget (B1 q) p.1 := by rw [Zj, h3]; rfl
        rw [this]; exact h2.1
      · simp only [r1 p.1 e h3]; rw [h2.2]; exact h0.2
  · rw [hSof]
    cases h : R q with
    | ct c => rw [h] at hv; exact hv
    | any => trivial
    | own j =>
      rw [h] at hv; obtain ⟨e, he⟩ := Option.isSome_iff_exists.1 (hRk j (.inl h)); show v = _; simp only [r1 j e he]; exact hv
    | loc j o =>
      rw [h] at hv; obtain ⟨e, he⟩ := Option.isSome_iff_exists.1 (hRk j (.inr ⟨o, h⟩)); obtain ⟨gb, h3, h4⟩ := hv; exact ⟨gb, by simp only [r1 j e he]; exact h3, h4⟩
theorem Ops.callM {f : FuncId} {args : List Operand} {tys : Array TypeId} {As : List Sl} {B0 : BL} {fx : List Nat} {α : Type} {J : α → Prop} {R : α → Sl} {B1 : α → BL} (C : BL) (kp : Nat → Bool) (hgo : InGo X.P f) (hok : OkM X.P f As B0 fx J R B1) (hg : gd ops L g = some true) (hargs : evS L args = some As) (hn : Nat.blt d X.n = true)
    (hbor : ∀ gb, X.bor gb → X.S0 gb) (hB : ∀ j, bget B j = bget (B0 ++ C) j) (hC : ∀ j, (bget C j).isSome = true → bget B0 j = none ∧ ∀ q, bget (B1 q) j = none) (hkp : ∀ j, kp j = true → j ∈ fx ∨ ∀ q, bget (B1 q) j = none) (hfix : ∀ p ∈ X.fix, (bget C p.1).isSome = true ∨ p.1 ∈ fx)
    (hRk : ∀ q j, (R q = .own j ∨ ∃ o, R q = .loc j o) → (bget (B1 q) j).isSome = true)
    (h : ∀ q, J q → Ops X ops r ((d, R q) :: keepL kp L) (B1 q ++ C) K) : Ops X ops (.cons ⟨some d, .call { callee := .value (.func f), args := args.toArray, argTypes := tys }, t, pos, af, g⟩ .any r) L B K := fun a ρ w hI => by
  show wpO _ _ _ _ _ _
  unfold wpO
  rw [if_pos (Zp (o := ⟨some d, _, t, pos, af, g⟩) hI hg)]
  unfold Oper.wp
  have hrun : (execOp a.eval ⟨some d, .call { callee := .value (.func f), args := args.toArray, argTypes := tys }, t, pos, af, g⟩).run X.P w = .ok (.enter f (args.map a.eval).toArray) w := by
    show (do let D ← resolve a.eval { callee := .value (.func f), args := args.toArray, argTypes := tys } t; invoke D.target D.args : Sem Next).run X.P w = _; have hf : a.eval (.func f) = .func (.func f) #[] #[] := rfl; simp only [resolve, hf, Deferred.ofValue, Sem.run_bind, Sem.run_pure, Result.andThen_ok, invoke]; rw [hgo]
    congr 2
    simp
  rw [hrun]
  have c0 : ∀ j e, bget B0 j = some e → bget B j = some e := fun j e h => by rw [hB, Zj, h]; rfl
  have cC : ∀ j e, bget C j = some e → bget B j = some e := fun j e h => by rw [hB, Zj, (hC j (by rw [h]; rfl)).1, h]; rfl
  have hS0 : ∀ j e, bget B j = some e → ∀ gb, blk (ρ j) = some gb → X.S0 gb := fun j e hj gb hgb => by
    rcases (hI.ent j e hj).2 gb hgb with h1 | h1
    · exact hI.fresh gb h1
    · exact hbor gb h1
  have hSn : Sn (fun k => X.S0 k ∧ ∀ i e, bget C i = some e → blk (ρ i) ≠ some k) B0 ρ = Sof X B ρ := by
    funext k
    refine propext ⟨fun h => ⟨h.1.1, fun i e hi => ?_⟩, fun h => ⟨⟨h.1, fun i e hi => h.2 i e (cC i e hi)⟩, fun i e hi => h.2 i e (c0 i e hi)⟩⟩; rw [hB, Zj] at hi
    cases h1 : bget B0 i with
    | none => rw [h1] at hi; exact h.1.2 i e hi
    | some e1 => rw [h1] at hi; exact h.2 i e (by rw [h1]; exact hi)
  refine Calls.mono (hok (fun k => X.S0 k ∧ ∀ i e, bget C i = some e → blk (ρ i) ≠ some k) w ρ _ (fun k hk => ⟨hI.fresh k (Nat.le_trans hI.frame.size hk), fun i e hi hbk => ?_⟩) (fun i e hi gb hgb => ⟨hS0 i e (c0 i e hi) gb hgb, fun j f hj hbk => ?_⟩) ⟨fun i e hi => ?_, fun i j e e' hi hj => hI.apart i j e e' (c0 i e hi) (c0 j e' hj)⟩ (by rw [hSn]; exact hI.evS hargs)) ?_
  · have := hI.lt (cC i e hi) hbk; omega
  · have hij : i ≠ j := fun he => by subst he; rw [(hC i (by rw [hj]; rfl)).1] at hi; cases hi
    exact hI.apart i j e f (c0 i e hi) (cC j f hj) hij gb hgb hbk
  · rw [hSn]; exact (hI.ent i e (c0 i e hi)).1
  · rintro e w' ⟨v, q, ρ', rfl, hJ, hv, hH, hfx, hnew, hF⟩
    have := hI.afterM kp hB (fun j hj => (hC j hj).1) Y (fun j hj => (hC j hj).2 q) (fun j hj => (hkp j hj).imp id (fun h => h q)) hfix hv hH hfx hnew hF (hRk q); exact h q hJ _ _ w' (this.1.put (s := R q) (ZV hn) this.2)
end Go.Own
namespace Go.Proofs.YtdhmbgogmoaofaaGreat
open Go.Own Go.Limbs
theorem zvWh : (Tryz.prog.info? 94).map (·.zero) = some (some (.agg #[.bool false, .slice none 0 0])) := by kernel_rfl
theorem fW0 : fldInfo Tryz.prog 94 0 = some (0, some 1) := by kernel_rfl
theorem fW1 : fldInfo Tryz.prog 94 1 = some (1, some 1) := by kernel_rfl
theorem lWh : LdN Tryz.prog 94 2 := LdN.of _ Tryz.underlying94 rfl (by kernel_rfl)
theorem szWh : (Tryz.prog.info? 94).map (·.size) = some 2 := by kernel_rfl
theorem bWh : bInfo Tryz.prog 94 = some (.agg #[.bool false, .slice none 0 0], [(0, some 1), (1, some 1)]) := by kernel_rfl
theorem sWhs : SlcT Tryz.prog 95 94 2 32 (.agg #[.bool false, .slice none 0 0]) := SlcT.of Tryz.underlying95 (by kernel_rfl) rfl (by decide)
theorem lWhs : Ld1 Tryz.prog 95 := Ld1.of _ Tryz.underlying95 rfl
theorem sMat : SlcT Tryz.prog 96 95 1 24 (.slice none 0 0) := SlcT.of Tryz.underlying96 (by kernel_rfl) rfl (by decide)
theorem lMat : Ld1 Tryz.prog 96 := Ld1.of _ Tryz.underlying96 rfl
theorem fT0 : fldInfo Tryz.prog 98 0 = some (0, some 1) := by kernel_rfl
theorem fT1 : fldInfo Tryz.prog 98 1 = some (1, some 1) := by kernel_rfl
theorem fT2 : fldInfo Tryz.prog 98 2 = some (2, some 1) := by kernel_rfl
theorem fT3 : fldInfo Tryz.prog 98 3 = some (3, some 2) := by kernel_rfl
theorem bTab : bInfo Tryz.prog 98 = some (.agg #[.slice none 0 0, .slice none 0 0, .slice none 0 0, .bool false, .slice none 0 0], [(0, some 1), (1, some 1), (2, some 1), (3, some 2)]) := by kernel_rfl
theorem zMat : (Tryz.prog.info? 96).map (·.size) = some 1 := by kernel_rfl
theorem zWhs : (Tryz.prog.info? 95).map (·.size) = some 1 := by kernel_rfl
theorem Yu : (Tryz.prog.info? 24).map (·.size) = some 1 := by kernel_rfl
theorem uBoolW : Tryz.prog.underlying 4 = some .bool := Tryz.underlying4
theorem zBoolW : (Tryz.prog.info? 4).map (·.size) = some 1 := by kernel_rfl
abbrev whCs (z : Int) : List CT := [boolC (decide (z < 0)), natC z.natAbs]
abbrev whC (z : Int) : CT := .fr (aggT (whCs z))
def whs (zs : List Int) : List CT := (zs.map whCs).flatten
theorem X9 (zs : List Int) : (whs zs).length = zs.length * 2 := by
  unfold whs; rw [Xm (k := 2) (by simp)]; simp
theorem whs_get {zs : List Int} {j : Nat} (h : j < zs.length) : ((whs zs).drop (j * 2)).take 2 = whCs (zs.getD j 0) := by
  induction zs generalizing j with
  | nil => simp at h
  | cons z zs ih =>
    cases j with
    | zero => simp [whs]
    | succ j =>
      have := ih (j := j) (by simpa using h); have e : whs (z :: zs) = whCs z ++ whs zs := rfl; rw [e, show (j + 1) * 2 = 2 + j * 2 by omega, ← List.drop_drop]
      simpa using this
theorem whs_put {zs : List Int} {j : Nat} (z : Int) (h : j < zs.length) : (whs zs).take (j * 2) ++ whCs z ++ (whs zs).drop (j * 2 + 2) = whs (zs.set j z) := by
  induction zs generalizing j with
  | nil => simp at h
  | cons y zs ih =>
    cases j with
    | zero => simp [whs]
    | succ j =>
      have := ih (j := j) (by simpa using h); have e : whs (y :: zs) = boolC (decide (y < 0)) :: natC y.natAbs :: whs zs := rfl; have e2 : whs ((y :: zs).set (j + 1) z) = boolC (decide (y < 0)) :: natC y.natAbs :: whs (zs.set j z) := rfl; rw [e, e2, show (j + 1) * 2 = (j * 2 + 1) + 1 by omega, ← this]; simp
section
variable {X : Ctx} {L : AL} {B : BL} {ops : Array Oper} {K : Act → World → Prop} {r : Pl} {k : Kd}
  {x y z : Operand} {d : Nat} {t t2 t' : TypeId} {pos : String} {af : Array Edge} {g : Option (Nat × Bool)}
theorem ldWh {i j : Nat} {e : Ent} {l : List Int} (hk : k.rd = true) (hg : gd ops L g = some true) (hx : ev L x = some (.loc i (j * 2))) (hi : bget B i = some e) (he : e.cs = whs l) (hj : j < l.length) (hT : LdN X.P t 2) (hn : Nat.blt d X.n = true)
    (h : Ops X ops r ((d, .ct (whC (l.getD j 0))) :: L) B K) : Ops X ops (.cons ⟨some d, .load t x, t', pos, af, g⟩ k r) L B K :=
  Zc hk hg hx hi (by rw [he, X9]; omega) hT hn (by rw [he, whs_get hj]; exact h)
theorem stWhX {i j el : Nat} {v0 : Value} {l : List Int} {c : Int} (hg : gd ops L g = some true) (hx : ev L x = some (.loc i (j * 2))) (hi : bget B i = some (.rowx v0 el 2 (whs l))) (hy : ev L y = some (.ct (whC c))) (hj : j < l.length) (hsz : (X.P.info? t).map (·.size) = some 2)
    (h : Ops X ops r L (bset B i (.rowx v0 el 2 (whs (l.set j c)))) K) : Ops X ops (.cons ⟨none, .store t x y, t', pos, af, g⟩ .any r) L B K :=
  Ops.stNA hg hx hi hy rfl hsz (by show j * 2 + 2 ≤ (whs l).length; rw [X9]; omega) (by
    have : (Ent.rowx v0 el 2 (whs l)).putc (j * 2) (whCs c) = .rowx v0 el 2 (whs (l.set j c)) := by rw [← whs_put c hj]; rfl
    rw [this]; exact h)
end
attribute [local irreducible] Go.Own.Fin Ok Ops St
theorem zvRowW : (Tryz.prog.info? 57).map (·.zero) = some (some (.agg #[.slice none 0 0, .int .i64 0])) := by kernel_rfl
theorem goof : InGo Tryz.prog 122 := InGo.of Tryz.func122 (by kernel_rfl) (by kernel_rfl)
theorem gosign : InGo Tryz.prog 123 := InGo.of Tryz.func123 (by kernel_rfl) (by kernel_rfl)
theorem gominus : InGo Tryz.prog 125 := InGo.of Tryz.func125 (by kernel_rfl) (by kernel_rfl)
theorem goplus : InGo Tryz.prog 124 := InGo.of Tryz.func124 (by kernel_rfl) (by kernel_rfl)
theorem gotimes : InGo Tryz.prog 159 := InGo.of Tryz.func159 (by kernel_rfl) (by kernel_rfl)
theorem goover : InGo Tryz.prog 160 := InGo.of Tryz.func160 (by kernel_rfl) (by kernel_rfl)
theorem whC_eq {z : Int} {b : Bool} {n : Nat} (h : z = sg b n) (hb : b = true → n ≠ 0) : whC z = .fr (aggT [boolC b, natC n]) := by
  subst h; unfold whC whCs; rw [natAbs_sg]
  have : decide (sg b n < 0) = b := by
    unfold sg
    cases b with
    | true => have := hb J; simp; omega
    | false => simp
  rw [this]
set_option maxHeartbeats 1000000 in
theorem of_ok (n : Int) (h1 : -9223372036854775807 ≤ n) (h2 : n ≤ 9223372036854775807) : Ok Tryz.prog 122 [intC n] (whC n) := by
  refine Ok.enter Tryz.func122 J _ Tryz.ntmps122 J ?_
  intro S w; refine Qy (Qx fun K hK => ?_); refine Qf 4 J J zvWh J J J (Qj (hK _ _ (Qz (Qy (Qy ?_))))); clear hK K; refine Qx (fun K hK => ?_); refine Qq J J J (Qw ilss J J J J (Qj (hK _ _ (Qz ?_)))); clear hK K; refine QK J (fun h => ?_) (fun h => ?_)
  · refine Qy (Qx fun K hK => ?_); refine Qq J J J (Ops.ineg J J (by omega) (by omega) J ?_); rw [show -n = (n.natAbs : Int) by omega]
    refine QQ goFrom (From_ok n.natAbs (by omega)) J J J J ?_
    refine Qq J J J (QY J J J J (QY J J J J (Qv J J J (Qv J J J (Qj (hK _ _ (Qz (Qy ?_)))))))); clear hK K; refine Qx (fun K hK => ?_); refine Qq J J J (Xk J bWh J (.one J J J J (.one J J J J .nil)) J (Qa 2 J J J J J szWh J J (Qj (hK _ _ (Qz (Q2 (QW ?_))))))); clear hK K; refine Q1 [_] rfl (Qd (n := 2) J J lWh J QX) (by rw [whC_eq (b := true) (n := n.natAbs) (by unfold sg; rw [if_pos J]; omega) (by intro _; omega)]; rfl) J
  · refine QU (Qz (Qy (Qx fun K hK => ?_))); refine Qq J J J (QQ goFrom (by rw [show n = (n.natAbs : Int) by omega]; exact From_ok n.natAbs (by omega)) J J J J ?_); refine Qq J J J (QY J J J J (QY J J J J (Qv J J J (Qv J J J (Qj (hK _ _ (Qz (Qy ?_)))))))); clear hK K; refine Qx (fun K hK => ?_); refine Qq J J J (Xk J bWh J (.one J J J J (.one J J J J .nil)) J (Qa 2 J J J J J szWh J J (Qj (hK _ _ (Qz (Q2 ?_)))))); clear hK K; refine Q1 [_] rfl (Qd (n := 2) J J lWh J QX) (by rw [whC_eq (b := false) (n := n.natAbs) (by unfold sg; rw [if_neg (by decide)]; omega) (by intro h; cases h)]; rfl) J
theorem len0 {z : Int} : ((limbs z.natAbs).length : Int) = 0 ↔ z = 0 := by
  have := limbs_len_pos (n := z.natAbs); omega
theorem Yi (z : Int) : Ok Tryz.prog 123 [whC z] (intC z.sign) := by
  have hz := len0 (z := z)
  refine Ok.enter Tryz.func123 J _ Tryz.ntmps123 J ?_
  intro S w; refine Qy (Qx fun K hK => ?_); refine XZ 4 J J J J J J J (Qv J J J (Qj (hK _ _ (Qz (Qy (Q0 (Qy ?_))))))); clear hK K; refine Qx (fun K hK => ?_); refine QV J J J fW1 J (QJ J J J J J lNat J (Q7 J J sNat.und (List.length_map ..) J (Qw ieql J J J J (Qv J J J (Qj (hK _ _ (Qz ?_))))))); clear hK K; refine QK J (fun h => ?_) (fun h => ?_)
  · have h0 : z = 0 := hz.1 h; subst h0; refine Qy (Qx fun K hK => ?_); refine Qv J J J (Qj (hK _ _ (Qz (Q2 (Qe (QW ?_)))))); clear hK K; refine Q1 [_] rfl (QZ J QX) J J
  · refine Qy (Qx fun K hK => ?_); refine QV J J J fW0 J (QJ J J J J J lBool J (Qv J J J (Qj (hK _ _ (Qz ?_))))); clear hK K; refine QK J (fun h2 => ?_) (fun h2 => ?_)
    · refine Qy (Qx fun K hK => ?_); refine Qv J J J (Qj (hK _ _ (Qz (Q2 (Qe (QW ?_)))))); clear hK K; refine Q1 [_] rfl (QZ J QX) (by rw [Int.sign_eq_neg_one_of_neg h2]; rfl) J
    · have h3 : 0 < z := by have := fun e => h (hz.2 e); omega
      refine QU (Qz (Qy (Qx fun K hK => ?_))); refine Qv J J J (Qj (hK _ _ (Qz (Q2 ?_)))); clear hK K; refine Q1 [_] rfl (QZ J QX) (by rw [Int.sign_eq_one_of_pos h3]; rfl) J
set_option maxHeartbeats 1000000 in
theorem minus_ok (z : Int) : Ok Tryz.prog 125 [whC z] (whC (-z)) := by
  have hz := limbs_len_pos (n := z.natAbs)
  refine Ok.enter Tryz.func125 J _ Tryz.ntmps125 J ?_
  intro S w
  have e : whC (-z) = .fr (aggT [boolC (!decide (z < 0) && decide (((limbs z.natAbs).length : Int) > 0)), natC z.natAbs]) := by
    unfold whC whCs; rw [Int.natAbs_neg]
    congr 4
    by_cases h : z < 0
    · rw [decide_eq_true h, decide_eq_false (by omega)]; rfl
    · rw [decide_eq_false h, Bool.not_false, Bool.true_and, decide_eq_decide]; omega
  rw [e]; clear e; refine Qy (Qx fun K hK => ?_); refine XZ 4 J J J J J J J (Qf 5 J J zvWh J J J (Qj (hK _ _ (Qz (Qy ?_))))); clear hK K; refine Qx (fun K hK => ?_); refine QV J J J fW0 J (QJ J J J J J lBool J (Xj J J J (Qq J J J (Zk 6 J (fun h => ?_) (fun h => ?_)))))
  · refine QV J J J fW1 J (QJ J J J J J lNat J (Q7 J J sNat.und (List.length_map ..) J (Qw igtr J J J J (Qc J J J J (QV J J J fW1 J (QJ J J J J J lNat J (Xk J bWh J (.one J J J J (.one J J J J .nil)) J (Qa 2 J J J J J szWh J J (Qj (hK _ _ (Qz (Q2 ?_)))))))))))); clear hK K; refine Q1 [_] rfl (Qd (n := 2) J J lWh J QX) (by rw [h]; rfl) J
  · refine Qk J J J (Qk J J J (Qk J J J (Qk J J J (Q6 J J J J (QV J J J fW1 J (QJ J J J J J lNat J (Xk J bWh J (.one J J J J (.one J J J J .nil)) J (Qa 2 J J J J J szWh J J (Qj (hK _ _ (Qz (Q2 ?_)))))))))))); clear hK K; refine Q1 [_] rfl (Qd (n := 2) J J lWh J QX) (by rw [h]; rfl) J
set_option maxHeartbeats 2000000 in
theorem plus_ok (a b : Int) (ha : (limbs a.natAbs).length ≤ 200) (hb : (limbs b.natAbs).length ≤ 200) : Ok Tryz.prog 124 [whC a, whC b] (whC (a + b)) := by
  refine Ok.enter Tryz.func124 J _ Tryz.ntmps124 J ?_
  intro S w; refine Qy (Qx fun K hK => ?_); refine XZ 4 J J J J J J J (XZ 5 J J J J J J J (Qf 6 J J zvWh J J J (Qj (hK _ _ (Qz (Qy (Qy ?_))))))); clear hK K; refine Qx (fun K hK => ?_); refine QV J J J fW0 J (QJ J J J J J lBool J (QV J J J fW0 J (QJ J J J J J lBool J (Ops.beq J J J uBoolW J (Qj (hK _ _ (Qz ?_))))))); clear hK K; refine Za J (fun h => ?_) (fun h => ?_)
  · have h' : decide (a < 0) = decide (b < 0) := by simpa using h
    have hab : (a + b).natAbs = a.natAbs + b.natAbs := by
      rw [decide_eq_decide] at h'; omega
    have hneg : decide (a + b < 0) = (decide (a < 0) && decide (((limbs (a + b).natAbs).length : Int) > 0)) := by
      have hz := limbs_len_pos (n := (a + b).natAbs); rw [decide_eq_decide] at h'; by_cases h : a < 0
      · rw [decide_eq_true h, Bool.true_and, decide_eq_decide]; omega
      · rw [decide_eq_false h, Bool.false_and, decide_eq_false_iff_not]; omega
    have e : whC (a + b) = .fr (aggT [boolC (decide (a < 0) && decide (((limbs (a + b).natAbs).length : Int) > 0)), natC (a + b).natAbs]) := by
      unfold whC whCs; rw [hneg]
    rw [e, hab]; clear e hneg; refine Qy (Qx fun K hK => ?_); refine QV J J J fW1 J (QJ J J J J J lNat J (QV J J J fW1 J (QJ J J J J J lNat J (QQ goAdd (Add_list _ _ ha hb (X2 _) (X2 _)) J J J J ?_)))); rw [Xf, Xf, show ((a.natAbs : Int) + b.natAbs).toNat = a.natAbs + b.natAbs by omega]; refine Qq J J J (QY J J J J (QY J J J J (Qv J J J (Qv J J J (Qj (hK _ _ (Qz (Qy ?_)))))))); clear hK K; refine Qx (fun K hK => ?_); refine QV J J J fW0 J (QJ J J J J J lBool J (Qq J J J (Zk 24 J (fun h => ?_) (fun h => ?_))))
    · refine Qq J J J (Q7 J J sNat.und (List.length_map ..) J (Qw igtr J J J J (Qc J J J J (Qq J J J (Xk J bWh J (.one J J J J (.one J J J J .nil)) J (Qa 2 J J J J J szWh J J (Qj (hK _ _ (Qz (Q2 (QW ?_))))))))))); clear hK K; refine Q1 [_] rfl (Qd (n := 2) J J lWh J QX) (by rw [h]; rfl) J
    · refine Qk J J J (Qk J J J (Qk J J J (Q6 J J J J (Qq J J J (Xk J bWh J (.one J J J J (.one J J J J .nil)) J (Qa 2 J J J J J szWh J J (Qj (hK _ _ (Qz (Q2 (QW ?_))))))))))); clear hK K; refine Q1 [_] rfl (Qd (n := 2) J J lWh J QX) (by rw [h]; rfl) J
  · have h' : ¬ decide (a < 0) = decide (b < 0) := by simpa using h
    rw [decide_eq_decide] at h'; refine QU (Qz (Qy (Qy (Qx fun K hK => ?_)))); refine QV J J J fW1 J (QJ J J J J J lNat J (QV J J J fW1 J (QJ J J J J J lNat J (QQ goCompare (Compare_ok a.natAbs b.natAbs (by omega) (by omega)) J J J J ?_)))); refine Qw ilss J J J J (Qj (hK _ _ (Qz ?_))); clear hK K; refine QK J (fun h3 => ?_) (fun h3 => ?_)
    · have hlt : a.natAbs < b.natAbs := by
        rw [cmpI_eq] at h3; split at h3
        · omega
        · split at h3 <;> omega
      have hab : (a + b).natAbs = b.natAbs - a.natAbs := by omega
      have hneg : decide (a + b < 0) = (decide (b < 0) && decide (((limbs (a + b).natAbs).length : Int) > 0)) := by
        have hz := limbs_len_pos (n := (a + b).natAbs); by_cases h : b < 0
        · rw [decide_eq_true h, Bool.true_and, decide_eq_decide]; omega
        · rw [decide_eq_false h, Bool.false_and, decide_eq_false_iff_not]; omega
      have e : whC (a + b) = .fr (aggT [boolC (decide (b < 0) && decide (((limbs (a + b).natAbs).length : Int) > 0)), natC (a + b).natAbs]) := by
        unfold whC whCs; rw [hneg]
      rw [e, hab]; clear e hneg; refine Qx (fun K hK => ?_); refine Qt (n := 2) J J J J J lWh J (Qt (n := 2) J J J J J lWh J (Qa 2 J J J J J szWh J J (Qa 2 J J J J J szWh J J (Qj (hK _ _ (Qz (Qy ?_))))))); clear hK K; refine Qx (fun K hK => ?_); refine QV J J J fW1 J (QJ J J J J J lNat J (QV J J J fW1 J (QJ J J J J J lNat J (QQ goSub (Sub_ok b.natAbs a.natAbs (by omega) (by omega)) J J J J ?_)))); refine Qq J J J (QY J J J J (QY J J J J (Qv J J J (Qv J J J (Qj (hK _ _ (Qz (Qy ?_)))))))); clear hK K; refine Qx (fun K hK => ?_); refine QV J J J fW0 J (QJ J J J J J lBool J (Qq J J J (Zk 49 J (fun h => ?_) (fun h => ?_))))
      · refine Qq J J J (Q7 J J sNat.und (List.length_map ..) J (Qw igtr J J J J (Qc J J J J (Qq J J J (Xk J bWh J (.one J J J J (.one J J J J .nil)) J (Qa 2 J J J J J szWh J J (Qj (hK _ _ (Qz (Q2 ?_)))))))))); clear hK K; refine Q1 [_] rfl (Qd (n := 2) J J lWh J QX) (by rw [h]; rfl) J
      · refine Qk J J J (Qk J J J (Qk J J J (Q6 J J J J (Qq J J J (Xk J bWh J (.one J J J J (.one J J J J .nil)) J (Qa 2 J J J J J szWh J J (Qj (hK _ _ (Qz (Q2 ?_)))))))))); clear hK K; refine Q1 [_] rfl (Qd (n := 2) J J lWh J QX) (by rw [h]; rfl) J
    · have hlt : ¬ a.natAbs < b.natAbs := by
        intro hl; rw [cmpI_eq, if_pos (by omega)] at h3; omega
      have hab : (a + b).natAbs = a.natAbs - b.natAbs := by omega
      have hneg : decide (a + b < 0) = (decide (a < 0) && decide (((limbs (a + b).natAbs).length : Int) > 0)) := by
        have hz := limbs_len_pos (n := (a + b).natAbs); by_cases h : a < 0
        · rw [decide_eq_true h, Bool.true_and, decide_eq_decide]; omega
        · rw [decide_eq_false h, Bool.false_and, decide_eq_false_iff_not]; omega
      have e : whC (a + b) = .fr (aggT [boolC (decide (a < 0) && decide (((limbs (a + b).natAbs).length : Int) > 0)), natC (a + b).natAbs]) := by
        unfold whC whCs; rw [hneg]
      rw [e, hab]; clear e hneg; refine QU (Qz (Qy (Qx fun K hK => ?_))); refine QV J J J fW1 J (QJ J J J J J lNat J (QV J J J fW1 J (QJ J J J J J lNat J (QQ goSub (Sub_ok a.natAbs b.natAbs (by omega) (by omega)) J J J J ?_)))); refine Qq J J J (QY J J J J (QY J J J J (Qv J J J (Qv J J J (Qj (hK _ _ (Qz (Qy ?_)))))))); clear hK K; refine Qx (fun K hK => ?_); refine QV J J J fW0 J (QJ J J J J J lBool J (Qq J J J (Zk 49 J (fun h => ?_) (fun h => ?_))))
      · refine Qq J J J (Q7 J J sNat.und (List.length_map ..) J (Qw igtr J J J J (Qc J J J J (Qq J J J (Xk J bWh J (.one J J J J (.one J J J J .nil)) J (Qa 2 J J J J J szWh J J (Qj (hK _ _ (Qz (Q2 ?_)))))))))); clear hK K; refine Q1 [_] rfl (Qd (n := 2) J J lWh J QX) (by rw [h]; rfl) J
      · refine Qk J J J (Qk J J J (Qk J J J (Q6 J J J J (Qq J J J (Xk J bWh J (.one J J J J (.one J J J J .nil)) J (Qa 2 J J J J J szWh J J (Qj (hK _ _ (Qz (Q2 ?_)))))))))); clear hK K; refine Q1 [_] rfl (Qd (n := 2) J J lWh J QX) (by rw [h]; rfl) J
theorem w_wh0 : ∀ S w v, (CT.fr (aggT [boolC false, .ex (.slice none 0 0)])).p S w v → (whC 0).p S w v := fun S w v h => by
  have : whC 0 = .fr (aggT [boolC false, intsC []]) := by show CT.fr (aggT [boolC (decide ((0 : Int) < 0)), natC 0]) = _; rw [natC_zero]; rfl
  rw [this]
  exact w_agg (cs := [boolC false, .ex (.slice none 0 0)]) (ds := [boolC false, intsC []]) ⟨Xp, Yd, trivial⟩ S w v h
set_option maxHeartbeats 2000000 in
theorem times_ok (a b : Int) (hx : (limbs a.natAbs).length + (limbs b.natAbs).length ≤ 256) : Ok Tryz.prog 159 [whC a, whC b] (whC (a * b)) := by
  have ha := len0 (z := a); have hb := len0 (z := b)
  refine Ok.enter Tryz.func159 J _ Tryz.ntmps159 J ?_
  intro S w; refine Qy (Qx fun K hK => ?_); refine XZ 4 J J J J J J J (XZ 5 J J J J J J J (Qf 6 J J zvWh J J J (Qj (hK _ _ (Qz (Qy (Qy ?_))))))); clear hK K; refine Qx (fun K hK => ?_); refine QV J J J fW1 J (QJ J J J J J lNat J (Q7 J J sNat.und (List.length_map ..) J (Qw ieql J J J J (Qq J J J (Qp 11 J (fun h => ?_) (fun h => ?_))))))
  · have h0 : a = 0 := ha.1 h; subst h0; refine Qk J J J (Qk J J J (Qk J J J (Qk J J J (Qc J J J J (Qj (hK _ _ (Qz (XU J (Qy ?_))))))))); clear hK K; refine Qx (fun K hK => ?_); refine Xk J bWh J .nil J (Qa 2 J J J J J szWh J J (Qj (hK _ _ (Qz (Q2 (QW ?_)))))); clear hK K; refine Q1 [_] rfl (Xr w_wh0 (Qd (n := 2) J J lWh J QX)) (by rw [Int.zero_mul]; rfl) J
  · refine QV J J J fW1 J (QJ J J J J J lNat J (Q7 J J sNat.und (List.length_map ..) J (Qw ieql J J J J (Q6 J J J J (Qj (hK _ _ (Qz ?_))))))); clear hK K; refine QK J (fun h2 => ?_) (fun h2 => ?_)
    · have h0 : b = 0 := hb.1 h2; subst h0; refine Qy (Qx fun K hK => ?_); refine Xk J bWh J .nil J (Qa 2 J J J J J szWh J J (Qj (hK _ _ (Qz (Q2 (QW ?_)))))); clear hK K; refine Q1 [_] rfl (Xr w_wh0 (Qd (n := 2) J J lWh J QX)) (by rw [Int.mul_zero]; rfl) J
    · have ha0 : a ≠ 0 := fun e => h (ha.2 e)
      have hb0 : b ≠ 0 := fun e => h2 (hb.2 e)
      have e : whC (a * b) = .fr (aggT [boolC (decide (a < 0) != decide (b < 0)), natC (a.natAbs * b.natAbs)]) := by
        refine whC_eq (b := decide (a < 0) != decide (b < 0)) (n := a.natAbs * b.natAbs) ?_ (fun _ => Nat.mul_ne_zero (by omega) (by omega))
        have h1 := sg_natAbs a; have h2 := sg_natAbs b
        conv => lhs; rw [← h1, ← h2]
        cases decide (a < 0) <;> cases decide (b < 0) <;> simp [sg, Int.natCast_mul, Int.neg_mul, Int.mul_neg]
      rw [e]; clear e; refine QU (Qz (Qy (Qx fun K hK => ?_))); refine QV J J J fW1 J (QJ J J J J J lNat J (QV J J J fW1 J (QJ J J J J J lNat J (QQ goMul (Mul_ok a.natAbs b.natAbs hx) J J J J (Qq J J J (QY J J J J (QY J J J J (Qv J J J (Qv J J J (Qj (hK _ _ (Qz (Qy ?_))))))))))))); clear hK K; refine Qx (fun K hK => ?_); refine QV J J J fW0 J (QJ J J J J J lBool J (QV J J J fW0 J (QJ J J J J J lBool J (Ys J J J uBoolW J (Qq J J J ?_))))); rw [dne]; refine Xk J bWh J (.one J J J J (.one J J J J .nil)) J (Qa 2 J J J J J szWh J J (Qj (hK _ _ (Qz (Q2 ?_))))); clear hK K; refine Q1 [_] rfl (Qd (n := 2) J J lWh J QX) J J
theorem tdiv_sg (a : Int) (b : Nat) : a.tdiv b = sg (decide (a < 0)) (a.natAbs / b) := by
  unfold sg; by_cases h : a < 0
  · rw [if_pos (by simpa using h)]; obtain ⟨n, rfl⟩ : ∃ n : Nat, a = -(n : Int) := ⟨a.natAbs, by omega⟩; rw [Int.neg_tdiv, Int.natAbs_neg, Int.natAbs_natCast]; rfl
  · rw [if_neg (by simpa using h)]; obtain ⟨n, rfl⟩ : ∃ n : Nat, a = (n : Int) := ⟨a.natAbs, by omega⟩; rw [Int.natAbs_natCast]; rfl
set_option maxHeartbeats 2000000 in
theorem over_ok (a : Int) (b : Int) (hb : 0 < b) (h1 : (limbs a.natAbs).length ≤ 256) (h2 : (limbs b.natAbs).length ≤ 256) : Ok Tryz.prog 160 [whC a, whC b] (whC (a.tdiv b)) := by
  have ha := len0 (z := a); obtain ⟨m, rfl⟩ : ∃ m : Nat, b = (m : Int) := ⟨b.toNat, by omega⟩; rw [Int.natAbs_natCast] at h2; have hdm := DivMod_ok a.natAbs m (by omega) h1 h2; have hl := limbs_len_pos (n := a.natAbs / m)
  have gen : ∀ q : Nat, q = a.natAbs / m → whC (a.tdiv m) = .fr (aggT [boolC (decide (a < 0) && decide (((limbs q).length : Int) > 0)), natC q]) := fun q hq => by
    subst hq
    refine whC_eq (b := decide (a < 0) && decide (((limbs (a.natAbs / m)).length : Int) > 0)) (n := a.natAbs / m) ?_ (fun h => ?_)
    · rw [tdiv_sg]; by_cases h0 : a.natAbs / m = 0
      · rw [h0, limbs_zero]; unfold sg; simp
      · have : decide (((limbs (a.natAbs / m)).length : Int) > 0) = true := by rw [decide_eq_true_eq]; omega
        rw [this, Bool.and_true]
    · simp only [Bool.and_eq_true, decide_eq_true_eq] at h; omega
  refine Ok.enter Tryz.func160 J _ Tryz.ntmps160 J ?_
  intro S w; rw [show whC (m : Int) = .fr (aggT [boolC false, natC m]) from whC_eq (b := false) (n := m) (by unfold sg; rfl) (by intro h; cases h)]; refine Qy (Qx fun K hK => ?_); refine XZ 4 J J J J J J J (XZ 5 J J J J J J J (Qf 6 J J zvWh J J J (Qj (hK _ _ (Qz (Qy (Qy ?_))))))); clear hK K; refine Qx (fun K hK => ?_); refine QV J J J fW1 J (QJ J J J J J lNat J (Q7 J J sNat.und (List.length_map ..) J (Qw ieql J J J J (Qq J J J (Qp 12 J (fun h => ?_) (fun h => ?_))))))
  · have h0 : a = 0 := ha.1 h; subst h0; refine Qk J J J (Qk J J J (Qk J J J (Qk J J J (Qk J J J (Qk J J J (Qk J J J (Qk J J J (Qk J J J (Qk J J J (Qk J J J (Qc J J J J (Qj (hK _ _ (Qz (XU J (Qy ?_)))))))))))))))); clear hK K; refine Qx (fun K hK => ?_); refine Qt (n := 2) J J J J J lWh J (Qa 2 J J J J J szWh J J (Qj (hK _ _ (Qz (Q2 (QW ?_)))))); clear hK K; refine Q1 [_] rfl (Qd (n := 2) J J lWh J QX) (by rw [Int.zero_tdiv]; rfl) J
  · refine QV J J J fW1 J (QJ J J J J J lNat J (Q7 J J sNat.und (List.length_map ..) J (Qw ieql J J J J (Qq J J J (Qp 17 J (fun h3 => ?_) (fun h3 => ?_))))))
    · have hm : m < 1073741824 := by
        have := X8 (n := m) (k := 1) (by omega)
        simpa using this
      have e0 : (limbs m).getD (0 : Int).toNat 0 = m := by rw [limbs_one (by omega) hm]; rfl
      refine QV J J J fW1 J (QJ J J J J J lNat J (Qh J J J sNat (by omega) (X3 (by omega) (by omega)) J ?_)); refine Xz J J J lInt J (Qw ieql J J J J (Qc J J J J (Q6 J J J J (Qj (hK _ _ (Qz ?_)))))); clear hK K; rw [e0]; skip; refine QK J (fun h4 => ?_) (fun h4 => ?_)
      · have h5 : m = 1 := by omega
        subst h5; refine Qy (Qx fun K hK => ?_); refine Qt (n := 2) J J J J J lWh J (Qa 2 J J J J J szWh J J (Qj (hK _ _ (Qz (Q2 (QW ?_)))))); clear hK K; refine Q1 [_] rfl (Qd (n := 2) J J lWh J QX) (by rw [show ((1 : Nat) : Int) = 1 from rfl, Int.tdiv_one]; rfl) J
      · rw [gen _ J]; generalize a.natAbs / m = q at *; generalize a.natAbs % m = rr at *; refine QU (Qz (Qy (Qx fun K hK => ?_))); refine QV J J J fW1 J (QJ J J J J J lNat J (QV J J J fW1 J (QJ J J J J J lNat J (QQ goDivMod hdm J J J J (Qq J J J (QY J J J J (QY J J J J (QY J J J J (Qv J J J (Qv J J J (Qv J J J (Qj (hK _ _ (Qz (Qy ?_))))))))))))))); clear hK K; refine Qx (fun K hK => ?_); refine QV J J J fW0 J (QJ J J J J J lBool J (Qq J J J (Zk 37 J (fun h => ?_) (fun h => ?_))))
        · refine Qq J J J (Q7 J J sNat.und (List.length_map ..) J (Qw igtr J J J J (Qc J J J J (Qq J J J (Xk J bWh J (.one J J J J (.one J J J J .nil)) J (Qa 2 J J J J J szWh J J (Qj (hK _ _ (Qz (Q2 ?_)))))))))); clear hK K; refine Q1 [_] rfl (Qd (n := 2) J J lWh J QX) (by rw [h]; rfl) J
        · refine Qk J J J (Qk J J J (Qk J J J (Q6 J J J J (Qq J J J (Xk J bWh J (.one J J J J (.one J J J J .nil)) J (Qa 2 J J J J J szWh J J (Qj (hK _ _ (Qz (Q2 ?_)))))))))); clear hK K; refine Q1 [_] rfl (Qd (n := 2) J J lWh J QX) (by rw [h]; rfl) J
    · have gq := gen _ J; generalize a.natAbs / m = q at *; generalize a.natAbs % m = rr at *; refine Qk J J J (Qk J J J (Qk J J J (Qk J J J (Qk J J J (Q6 J J J J (Q6 J J J J (Qj (hK _ _ (Qz (XY J (QU (Qz (Qy ?_))))))))))))); clear hK K; refine Qx (fun K hK => ?_); refine QV J J J fW1 J (QJ J J J J J lNat J (QV J J J fW1 J (QJ J J J J J lNat J (QQ goDivMod hdm J J J J (Qq J J J (QY J J J J (QY J J J J (QY J J J J (Qv J J J (Qv J J J (Qv J J J (Qj (hK _ _ (Qz (Qy ?_))))))))))))))); clear hK K; refine Qx (fun K hK => ?_); refine QV J J J fW0 J (QJ J J J J J lBool J (Qq J J J (Zk 37 J (fun h => ?_) (fun h => ?_))))
      · refine Qq J J J (Q7 J J sNat.und (List.length_map ..) J (Qw igtr J J J J (Qc J J J J (Qq J J J (Xk J bWh J (.one J J J J (.one J J J J .nil)) J (Qa 2 J J J J J szWh J J (Qj (hK _ _ (Qz (Q2 ?_)))))))))); clear hK K; refine Q1 [_] rfl (Qd (n := 2) J J lWh J QX) (by rw [gq, h]; rfl) J
      · refine Qk J J J (Qk J J J (Qk J J J (Q6 J J J J (Qq J J J (Xk J bWh J (.one J J J J (.one J J J J .nil)) J (Qa 2 J J J J J szWh J J (Qj (hK _ _ (Qz (Q2 ?_)))))))))); clear hK K; refine Q1 [_] rfl (Qd (n := 2) J J lWh J QX) (by rw [gq, h]; rfl) J
end Go.Proofs.YtdhmbgogmoaofaaGreat
namespace Go.Own
variable {X : Ctx} {L : AL} {B : BL} {ops : Array Oper} {K : Act → World → Prop} {r : Pl} {k : Kd}
  {x y z : Operand} {d : Nat} {t t2 t' : TypeId} {pos : String} {af : Array Edge} {g : Option (Nat × Bool)}
theorem Qo {el n bytes e : Nat} {v0 : Value} {zv : Value} {kk : IntKind} {j : Int} {cs : List CT} (i m : Nat) (hg : gd ops L g = some true) (hx : ev L x = some (.ct (.ex v0))) (hi : bget B i = some (.rowx v0 e n cs)) (hl : cs.length = m * n) (hy : ev L y = some (.ct (.ex (.int kk j)))) (hT : SlcT X.P t el n bytes zv) (h0 : 0 ≤ j) (hj : j < m)
    (hn : Nat.blt d X.n = true) (h : Ops X ops r ((d, .loc i (j.toNat * n)) :: L) B K) : Ops X ops (.cons ⟨some d, .indexAddr t x y, t', pos, af, g⟩ k r) L B K :=
  Xn (s := .loc i (j.toNat * n)) hg rfl hn (fun a ρ w hI => by
    have h1 : a.eval x = ρ i := by
      have : a.eval x = v0 := hI.evx hx; rw [this]; exact (hI.ent i _ hi).1.1.symm
    obtain ⟨nf, hi2, hs, _⟩ := hT.inf; obtain ⟨n', vs, how, hc⟩ := (hI.ent i _ hi).1.2; have hl' := hc.length; rw [how.1, hl] at hl'; have : n' = m := Nat.eq_of_mul_eq_mul_right hT.pos hl'; subst this; rcases how.2 with ⟨h2, h3⟩ | ⟨gb, cap, cur, h2, _⟩
    · omega
    · refine ⟨.pointer (some ⟨gb, j.toNat * n, none⟩), fun w' _ => ?_, gb, by rw [h2]; rfl, rfl⟩; show (do pure (Next.value (← Instr.indexAt t (a.eval x) (a.eval y))) : Sem Next).run X.P w' = _; rw [h1, h2, hI.evx hy]
      refine ZQ ?_
      rw [run_index hT.und hi2 h0 (by omega), hs, Nat.zero_add]) h
theorem ZK {el n e : Nat} {v0 : Value} {cs : List CT} (i m : Nat) (hg : gd ops L g = some true) (hx : ev L x = some (.ct (.ex v0))) (hi : bget B i = some (.rowx v0 e n cs)) (hp : 0 < n) (hl : cs.length = m * n) (hu : X.P.underlying t = some (.slice el)) (hn : Nat.blt d X.n = true) (h : Ops X ops r ((d, .ct (.ex (.int .i64 m))) :: L) B K) :
    Ops X ops (.cons ⟨some d, .call { callee := .builtin .len, args := #[x], argTypes := #[t] }, t', pos, af, g⟩ k r) L B K :=
  Xn (s := .ct (.ex (.int .i64 m))) hg rfl hn (fun a ρ w hI => by
    have h1 : a.eval x = ρ i := by
      have : a.eval x = v0 := hI.evx hx; rw [this]; exact (hI.ent i _ hi).1.1.symm
    obtain ⟨ad, c, h2⟩ := row_len (hI.ent i _ hi).1.2 hp hl; refine ⟨_, fun w' _ => ZW (args := [x]) ?_, rfl⟩; intro _; simp only [List.map_cons, List.map_nil, h1, h2]
    exact run_lenSlice hu _ _ _ _ _) h
end Go.Own
namespace Go.Proofs.YtdhmbgogmoaofaaGreat
open Go.Own Go.Limbs
def linesB : Nat → List Value → List (List Int) → BL
  | _, [], _ => []
  | _, _, [] => []
  | k, h :: hl, z :: zs => (k, .rowx h 94 2 (whs z)) :: linesB (k + 1) hl zs
theorem Zl : ∀ (k : Nat) (hl : List Value) (zs : List (List Int)) (j : Nat), j < k → bget (linesB k hl zs) j = none
  | _, [], _, _, _ => by simp [linesB, bget]
  | _, _ :: _, [], _, _ => by simp [linesB, bget]
  | k, h :: hl, z :: zs, j, hj => by
    rw [linesB, Q3 _ _ (by omega)]; exact Zl (k + 1) hl zs j (by omega)
theorem XK : ∀ {k : Nat} {hl : List Value} {zs : List (List Int)} {i : Nat}, i < hl.length → i < zs.length → bget (linesB k hl zs) (i + k) = some (.rowx (hl.getD i default) 94 2 (whs (zs.getD i [])))
  | _, [], _, _, h, _ => by simp at h
  | _, _ :: _, [], _, _, h => by simp at h
  | k, h :: hl, z :: zs, 0, _, _ => by rw [linesB, Nat.zero_add, Ql]; rfl
  | k, h :: hl, z :: zs, i + 1, h1, h2 => by
    rw [linesB, Q3 _ _ (by omega), show i + 1 + k = i + (k + 1) by omega, XK (by simpa using h1) (by simpa using h2)]
    simp
theorem lines_ge : ∀ {k : Nat} {hl : List Value} {zs : List (List Int)} {i : Nat}, (hl.length ≤ i ∨ zs.length ≤ i) → bget (linesB k hl zs) (i + k) = none
  | _, [], _, _, _ => by simp [linesB, bget]
  | _, _ :: _, [], _, _ => by simp [linesB, bget]
  | k, h :: hl, z :: zs, 0, h1 => by simp at h1
  | k, h :: hl, z :: zs, i + 1, h1 => by
    rw [linesB, Q3 _ _ (by omega), show i + 1 + k = i + (k + 1) by omega]
    exact lines_ge (by simpa using h1)
theorem lines_set : ∀ {k : Nat} {hl : List Value} {zs : List (List Int)} {i : Nat} (y : List Int), i < hl.length → i < zs.length →
    bset (linesB k hl zs) (i + k) (.rowx (hl.getD i default) 94 2 (whs y)) = linesB k hl (zs.set i y)
  | _, [], _, _, _, h, _ => by simp at h
  | _, _ :: _, [], _, _, _, h => by simp at h
  | k, h :: hl, z :: zs, 0, y, _, _ => by simp [linesB, bset]
  | k, h :: hl, z :: zs, i + 1, y, h1, h2 => by
    have := lines_set (k := k + 1) (hl := hl) (zs := zs) (i := i) y (by simpa using h1) (by simpa using h2)
    rw [show i + (k + 1) = i + 1 + k by omega] at this
    have hne : Nat.beq k (i + 1 + k) = false := beq_ne (by omega)
    simp only [linesB, bset, hne, List.set_cons_succ, List.getD_cons_succ]
    rw [this]
theorem YQ {j i : Nat} {e e' : Ent} {B : BL} (h : Nat.beq j i = false) : bset ((j, e) :: B) i e' = (j, e) :: bset B i e' := by simp [bset, h]
structure Tv where
  hR : Value
  hB : Value
  hC : Value
  hl : List Value
  rows : List (List Int)
  bas : List Int
  col : List Int
  den : Int
abbrev tabCs (T : Tv) : List CT := [.ex T.hR, .ex T.hB, .ex T.hC, boolC (decide (T.den < 0)), natC T.den.natAbs]
def tabB (T : Tv) : BL :=
  (0, .box 98 (tabCs T)) :: (1, .rowx T.hR 95 1 (T.hl.map CT.ex)) :: (2, .rowx T.hB 3 1 (ints T.bas)) :: (3, .rowx T.hC 3 1 (ints T.col)) :: linesB 10 T.hl T.rows
structure Fit (T : Tv) : Prop where
  hl : T.hl.length = T.rows.length
  row : ∀ i, i < T.rows.length → (T.rows.getD i []).length = T.col.length + 1
  bas : T.bas.length ≤ T.rows.length
  few : T.rows.length ≤ 100
  thin : T.col.length ≤ 100
theorem Yk {hl : List Value} {i : Nat} (h : i < hl.length) : (hl.map CT.ex)[i]? = some (.ex (hl.getD i default)) := by
  simp [List.getElem?_eq_getElem h, List.getD_eq_getElem?_getD]
theorem sgn_lt {z : Int} : z.sign < 0 ↔ z < 0 := by
  rcases Int.lt_trichotomy z 0 with h | h | h
  · rw [Int.sign_eq_neg_one_of_neg h]; omega
  · subst h; simp
  · rw [Int.sign_eq_one_of_pos h]; omega
theorem sgn_le {z : Int} : z.sign ≤ 0 ↔ z ≤ 0 := by
  rcases Int.lt_trichotomy z 0 with h | h | h
  · rw [Int.sign_eq_neg_one_of_neg h]; omega
  · subst h; simp
  · rw [Int.sign_eq_one_of_pos h]; omega
theorem sgn_eq {z : Int} : z.sign = 0 ↔ z = 0 := Int.sign_eq_zero_iff_zero
def entS (gr col : List Int) : Nat → Int
  | 0 => -1
  | j + 1 => if gr.getD j 0 < 0 ∧ (entS gr col j < 0 ∨ col.getD j 0 < col.getD (entS gr col j).toNat 0) then j else entS gr col j
theorem entS_bd (gr col : List Int) : ∀ j, -1 ≤ entS gr col j ∧ entS gr col j < j
  | 0 => by simp [entS]
  | j + 1 => by
    have := entS_bd gr col j
    simp only [entS]; split <;> omega
theorem tab_fx (T : Tv) : ∀ i ∈ [0], isBx (bget (tabB T) i) = true := fun i hi => by
  have : i = 0 := by simpa using hi
  subst this; rfl
attribute [local irreducible] St Ops Go.Own.Fin Ok OkM
theorem goentering : InGo Tryz.prog 133 := InGo.of Tryz.func133 (by kernel_rfl) (by kernel_rfl)
set_option maxHeartbeats 4000000 in
theorem entering_ok (T : Tv) (hF : Fit T) (gi : Nat) (hg : gi < T.rows.length) : OkM Tryz.prog 133 [.own 0, .ct (intC gi)] (tabB T) [0] (fun _ : Unit => True) (fun _ => .ct (intC (entS (T.rows.getD gi []) T.col T.col.length))) (fun _ => tabB T) := by
  have hrow := hF.row gi hg; have hfew := hF.few; have hthin := hF.thin; have hhl := hF.hl
  refine OkM.enter Tryz.func133 J _ Tryz.ntmps133 J (tab_fx T) ?_
  intro S w ρ0 hbor; simp only [tabB]; refine Qy (Qx fun K hK => ?_); refine Qv J J J (Qj (hK _ _ (Qz (Qy ?_)))); clear hK K; refine Qx (fun K hK => ?_); refine Qv J J J (Qj (hK _ _ (Qz (Qy (Qy ?_))))); clear hK K; refine Qx (fun K hK => ?_); refine Qq J J J (Q5 J J J J (QV J J J fT2 J (QJ J J J J J lInts J (ZK 3 T.col.length J J J (by decide) (by simp) sInts.und J ?_)))); refine Qq J J J (Qj (hK _ _ (Qz (Q0 ?_)))); clear hK K
  refine Xq (α := Nat) (fun s => s ≤ T.col.length)
    (fun s => [(0, .own 0), (1, .ct (intC gi)), (5, .ct (intC (entS (T.rows.getD gi []) T.col s))), (11, .ct (.ex T.hC)), (12, .ct (intC T.col.length)), (13, .ct (intC s))])
    (fun _ => tabB T) (fun s => T.col.length - s) 0 (Nat.zero_le _) (by exact Qu J ⟨rfl, rfl, rfl, rfl, rfl, rfl, trivial⟩) ?_
  intro j hj; dsimp only at hj ⊢; simp only [tabB]; have hb := entS_bd (T.rows.getD gi []) T.col j
  have es : entS (T.rows.getD gi []) T.col (j + 1) = if (T.rows.getD gi []).getD j 0 < 0 ∧ (entS (T.rows.getD gi []) T.col j < 0 ∨ T.col.getD j 0 < T.col.getD (entS (T.rows.getD gi []) T.col j).toNat 0) then (j : Int) else entS (T.rows.getD gi []) T.col j := rfl
  generalize hbest : entS (T.rows.getD gi []) T.col j = best at *; refine Qy (Qx fun K hK => ?_); refine Qw ilss J J J J (Qj (hK _ _ (Qz (Qy ?_)))); clear hK K; refine QK J (fun h => ?_) (fun h => ?_)
  · have k1 : (j : Int).toNat * 1 = j := by omega
    have k2 : (j : Int).toNat * 2 = j * 2 := by omega
    have k3 : (gi : Int).toNat * 1 = gi := by omega
    refine QU (Qz (Qy (Q0 (Qy (Qx fun K hK => ?_))))); refine Qq J J J (Qo 3 T.col.length J J J (by simp) J sInts (by omega) (by omega) J ?_); rw [k1]
    refine QJ J J J J (Xi (by omega)) lInt J ?_
    refine Qv J J J (Qv J J J (Qj (hK _ _ (Qz (Qy ?_))))); clear hK K; refine Qx (fun K hK => ?_); refine Qq J J J (Q5 J J J J (QV J J J fT0 J (QJ J J J J J lMat J (Qq J J J (Qo 1 T.rows.length J J J (by simp [hhl]) J sMat (by omega) (by omega) J ?_))))); rw [k3]
    refine QJ J J J J (Yk (by omega)) lWhs J ?_
    refine Qq J J J (Qo (gi + 10) (T.col.length + 1) J J (XK (by omega) hg) (by rw [X9, hrow]) J sWhs (by omega) (by omega) J ?_); rw [k2]
    refine ldWh J J J (XK (by omega) hg) J (by omega) lWh J ?_
    refine QQ gosign (Yi _) J J J J (Qw ilss J J J J (Qq J J J ?_)); have sl := sgn_lt (z := (T.rows.getD gi []).getD j 0); generalize (T.rows.getD gi []).getD j 0 = zz at *; refine Qp 30 J (fun h1 => ?_) (fun h1 => ?_)
    · refine Qq J J J (Qw ilss J J J J (Qq J J J (Qp 33 J (fun h2 => ?_) (fun h2 => ?_))))
      · refine Qk J J J (Qk J J J (Qk J J J (Qk J J J (Qk J J J (Qk J J J (Qk J J J (Qk J J J (Qk J J J (Qc J J J J (Qc J J J J (Qj (hK _ _ (Qz (XU J ?_)))))))))))))); clear hK K; refine Qx (fun K hK => ?_); refine Qq J J J (Qv J J J (Qj (hK _ _ (Qz ?_)))); clear hK K; refine Qx (fun K hK => ?_)
        refine Qw (iadd (by omega) (by omega)) J J J J ?_
        refine Qq J J J (Qj (hK _ _ (Q4 ?_))); clear hK K; refine Qb (j + 1) (by omega) (by omega) (by exact Qu J ⟨rfl, rfl, by rw [es, if_pos ⟨sl.1 h1, .inl h2⟩]; rfl, rfl, rfl, by simp only [Int.natCast_add]; rfl, trivial⟩)
      · refine Qq J J J (Qq J J J (Q5 J J J J (QV J J J fT2 J (QJ J J J J J lInts J (Qq J J J (Qo 3 T.col.length J J J (by simp) J sInts (by omega) (by omega) J ?_)))))); rw [show best.toNat * 1 = best.toNat by omega]
        refine QJ J J J J (Xi (by omega)) lInt J ?_
        refine Qw ilss J J J J (Q6 J J J J (Qc J J J J (Qj (hK _ _ (Qz ?_))))); clear hK K; refine QK J (fun h3 => ?_) (fun h3 => ?_)
        · refine Qx (fun K hK => ?_); refine Qq J J J (Qv J J J (Qj (hK _ _ (Qz ?_)))); clear hK K; refine Qx (fun K hK => ?_)
          refine Qw (iadd (by omega) (by omega)) J J J J ?_
          refine Qq J J J (Qj (hK _ _ (Q4 ?_))); clear hK K; refine Qb (j + 1) (by omega) (by omega) (by exact Qu J ⟨rfl, rfl, by rw [es, if_pos ⟨sl.1 h1, .inr h3⟩]; rfl, rfl, rfl, by simp only [Int.natCast_add]; rfl, trivial⟩)
        · refine QU (Qz (Qx fun K hK => ?_))
          refine Qw (iadd (by omega) (by omega)) J J J J ?_
          refine Qq J J J (Qj (hK _ _ (Q4 ?_))); clear hK K; refine Qb (j + 1) (by omega) (by omega) (by exact Qu J ⟨rfl, rfl, by rw [es, if_neg (fun h => h.2.elim h2 h3)]; rfl, rfl, rfl, by simp only [Int.natCast_add]; rfl, trivial⟩)
    · refine Qk J J J (Qk J J J (Qk J J J (Qk J J J (Qk J J J (Qk J J J (Qk J J J (Qk J J J (Qk J J J (Qk J J J (Qk J J J (Qk J J J (Qk J J J (Q6 J J J J (Qj (hK _ _ (Qz (XY J (QU (Qz ?_))))))))))))))))))); clear hK K; refine Qx (fun K hK => ?_)
      refine Qw (iadd (by omega) (by omega)) J J J J ?_
      refine Qq J J J (Qj (hK _ _ (Q4 ?_))); clear hK K; refine Qb (j + 1) (by omega) (by omega) (by exact Qu J ⟨rfl, rfl, by rw [es, if_neg (fun h => h1 (sl.2 h.1))]; rfl, rfl, rfl, by simp only [Int.natCast_add]; rfl, trivial⟩)
  · have hjn : j = T.col.length := by omega
    subst hjn; refine Qr (Qz (Qy (Qx fun K hK => ?_))); refine Qq J J J (Qv J J J (Qj (hK _ _ (Qz (Q2 ?_))))); clear hK K; refine Y3 () [_] rfl (QZ J QX) (by rw [hbest]; rfl) (fun _ => rfl) trivial
end Go.Proofs.YtdhmbgogmoaofaaGreat
namespace Go.Proofs.YtdhmbgogmoaofaaGreat
open Go.Own Go.Limbs
attribute [local irreducible] St Ops Go.Own.Fin Ok OkM
abbrev Tv.at (T : Tv) (i j : Nat) : Int := (T.rows.getD i []).getD j 0
def levS (T : Tv) (s : Nat) : Nat → Int
  | 0 => -1
  | i + 1 => if T.at i s ≤ 0 then levS T s i else if levS T s i < 0 then i else
      if T.at i T.col.length * T.at (levS T s i).toNat s + -(T.at (levS T s i).toNat T.col.length * T.at i s) < 0 ∨ (T.at i T.col.length * T.at (levS T s i).toNat s + -(T.at (levS T s i).toNat T.col.length * T.at i s) = 0 ∧ T.bas.getD i 0 < T.bas.getD (levS T s i).toNat 0) then i else levS T s i
theorem levS_bd (T : Tv) (s : Nat) : ∀ i, -1 ≤ levS T s i ∧ levS T s i < i
  | 0 => by simp [levS]
  | i + 1 => by
    have := levS_bd T s i
    simp only [levS]; split
    · omega
    · split
      · omega
      · split <;> omega
def Shrt (T : Tv) : Prop := ∀ i j, (limbs (T.at i j).natAbs).length ≤ 60
theorem mul_short {a b : Int} (ha : (limbs a.natAbs).length ≤ 60) (hb : (limbs b.natAbs).length ≤ 60) : (limbs (a * b).natAbs).length ≤ 120 := by
  rw [Int.natAbs_mul]; have := X7 (a := a.natAbs) (b := b.natAbs); omega
theorem neg_short {a : Int} {k : Nat} (ha : (limbs a.natAbs).length ≤ k) : (limbs (-a).natAbs).length ≤ k := by rw [Int.natAbs_neg]; exact ha
theorem goleaving : InGo Tryz.prog 134 := InGo.of Tryz.func134 (by kernel_rfl) (by kernel_rfl)
set_option maxHeartbeats 8000000 in
theorem leaving_ok (T : Tv) (hF : Fit T) (hS : Shrt T) (s : Nat) (hs : s ≤ T.col.length) : OkM Tryz.prog 134 [.own 0, .ct (intC s)] (tabB T) [0] (fun _ : Unit => True) (fun _ => .ct (intC (levS T s T.bas.length))) (fun _ => tabB T) := by
  have hfew := hF.few; have hthin := hF.thin; have hhl := hF.hl; have hbas := hF.bas
  refine OkM.enter Tryz.func134 J _ Tryz.ntmps134 J (tab_fx T) ?_
  intro S w ρ0 hbor; simp only [tabB]; refine Qy (Qx fun K hK => ?_); refine Qv J J J (Qj (hK _ _ (Qz (Qy ?_)))); clear hK K; refine Qx (fun K hK => ?_); refine Qv J J J (Qj (hK _ _ (Qz (Qy (Qy ?_))))); clear hK K; refine Qx (fun K hK => ?_); refine Qq J J J (Q5 J J J J (QV J J J fT1 J (QJ J J J J J lInts J (ZK 2 T.bas.length J J J (by decide) (by simp) sInts.und J ?_)))); refine Qq J J J (Qj (hK _ _ (Qz (Q0 ?_)))); clear hK K
  refine Xq (α := Nat) (fun i => i ≤ T.bas.length)
    (fun i => [(0, .own 0), (1, .ct (intC s)), (5, .ct (intC (levS T s i))), (14, .ct (.ex T.hB)), (15, .ct (intC T.bas.length)), (16, .ct (intC i))])
    (fun _ => tabB T) (fun i => T.bas.length - i) 0 (Nat.zero_le _) (by exact Qu J ⟨rfl, rfl, rfl, rfl, rfl, rfl, trivial⟩) ?_
  intro i hi; dsimp only at hi ⊢; simp only [tabB]; have hb := levS_bd T s i
  have es : levS T s (i + 1) = if T.at i s ≤ 0 then levS T s i else if levS T s i < 0 then (i : Int) else
      if T.at i T.col.length * T.at (levS T s i).toNat s + -(T.at (levS T s i).toNat T.col.length * T.at i s) < 0 ∨ (T.at i T.col.length * T.at (levS T s i).toNat s + -(T.at (levS T s i).toNat T.col.length * T.at i s) = 0 ∧ T.bas.getD i 0 < T.bas.getD (levS T s i).toNat 0) then (i : Int) else levS T s i := rfl
  generalize hbest : levS T s i = best at *; refine Qy (Qx fun K hK => ?_); refine Qw ilss J J J J (Qj (hK _ _ (Qz (Qy ?_)))); clear hK K; refine QK J (fun h => ?_) (fun h => ?_)
  · have hi2 : i < T.rows.length := by omega
    have hrow := hF.row i hi2
    have k1 : (i : Int).toNat * 1 = i := by omega
    have k2 : (s : Int).toNat * 2 = s * 2 := by omega
    refine QU (Qz (Qy (Q0 (Qy (Qx fun K hK => ?_))))); refine Qq J J J (Qo 2 T.bas.length J J J (by simp) J sInts (by omega) (by omega) J ?_); rw [k1]
    refine QJ J J J J (Xi (by omega)) lInt J ?_
    refine Qv J J J (Qv J J J (Qj (hK _ _ (Qz (Qy ?_))))); clear hK K; refine Qx (fun K hK => ?_); refine Qq J J J (Q5 J J J J (QV J J J fT0 J (QJ J J J J J lMat J (Qq J J J (Qo 1 T.rows.length J J J (by simp [hhl]) J sMat (by omega) (by omega) J ?_))))); rw [k1]
    refine QJ J J J J (Yk (by omega)) lWhs J ?_
    refine Qv J J J (Qj (hK _ _ (Qz (Qy (Qy ?_))))); clear hK K; refine Qx (fun K hK => ?_); refine Qq J J J (Qq J J J (Qo (i + 10) (T.col.length + 1) J J (XK (by omega) hi2) (by rw [X9, hrow]) J sWhs (by omega) (by omega) J ?_)); rw [k2]
    refine ldWh J J J (XK (by omega) hi2) J (by omega) lWh J ?_
    refine QQ gosign (Yi _) J J J J (Qw ileq J J J J (Qj (hK _ _ (Qz ?_)))); clear hK K; refine QK J (fun h1 => ?_) (fun h1 => ?_)
    · refine Qr (Qz (Qx fun K hK => ?_))
      refine Qw (iadd (by omega) (by omega)) J J J J ?_
      refine Qq J J J (Qj (hK _ _ (Q4 ?_))); clear hK K; refine Qb (i + 1) (by omega) (by omega) (by exact Qu J ⟨rfl, rfl, by rw [es, if_pos (sgn_le.1 h1)]; rfl, rfl, rfl, by simp only [Int.natCast_add]; rfl, trivial⟩)
    · have h1' : ¬ T.at i s ≤ 0 := fun h => h1 (sgn_le.2 h)
      rw [if_neg h1'] at es; refine QU (Qz (Qy (Qy (Qx fun K hK => ?_)))); refine Qq J J J (Qw ilss J J J J (Qj (hK _ _ (Qz ?_)))); clear hK K; refine QK J (fun h2 => ?_) (fun h2 => ?_)
      · refine Qy (Qx fun K hK => ?_); refine Qq J J J (Qv J J J (Qj (hK _ _ (Qz (Qr (Qz ?_)))))); clear hK K; refine Qx (fun K hK => ?_)
        refine Qw (iadd (by omega) (by omega)) J J J J ?_
        refine Qq J J J (Qj (hK _ _ (Q4 ?_))); clear hK K; refine Qb (i + 1) (by omega) (by omega) (by exact Qu J ⟨rfl, rfl, by rw [es, if_pos h2]; rfl, rfl, rfl, by simp only [Int.natCast_add]; rfl, trivial⟩)
      · rw [if_neg h2] at es; obtain ⟨b, rfl⟩ : ∃ b : Nat, best = b := ⟨best.toNat, by omega⟩; rw [Int.toNat_natCast] at es
        have hb2 : b < T.rows.length := by omega
        have hrowb := hF.row b hb2
        have k3 : (b : Int).toNat * 1 = b := by omega
        have k4 : ((T.col.length : Int)).toNat * 2 = T.col.length * 2 := by omega
        have s1 := hS i T.col.length; have s2 := hS b s; have s3 := hS b T.col.length; have s4 := hS i s; refine QU (Qz (Qy (Qx fun K hK => ?_))); refine Qq J J J (ZK (i + 10) (T.col.length + 1) J J (XK (by omega) hi2) (by decide) (by rw [X9, hrow]) sWhs.und J ?_)
        refine Qw (isub (by omega) (by omega)) J J J J ?_
        refine Qv J J J (Qj (hK _ _ (Qz (Qy ?_)))); clear hK K; rw [show (((T.col.length + 1 : Nat) : Int) - 1) = (T.col.length : Int) by omega]; refine Xv mixed 34 (.p 0 (.p 1 (.p 2 (.p 4 (.p 5 (.p 6 (.p 8 (.p 11 (.p 15 (.p 16 (.p 17 (.p 19 (.p 22 (.p 25 (.p 26 (.p 27 (.f 3 (.f 7 (.p 9 (.f 10 (.p 12 (.f 13 (.f 18 (.p 20 (.f 21 (.p 23 (.f 24 (.f 28 (.m 14 (.m 29 (.m 30 (.m 31 (.m 32 (.p 33 .done)))))))))))))))))))))))))))))))))) (by kernel_rfl) (fun K hK => ?_); refine Qq J J J (Qq J J J (Qo (i + 10) (T.col.length + 1) J J (XK (by omega) hi2) (by rw [X9, hrow]) J sWhs (by omega) (by omega) J ?_)); rw [k4]; refine Qq J J J (Q5 J J J J (QV J J J fT0 J (Qq J J J (Qq J J J (Qq J J J (Q5 J J J J (QV J J J fT0 J (Qq J J J (Qq J J J (Qq J J J (Qq J J J (Qo (i + 10) (T.col.length + 1) J J (XK (by omega) hi2) (by rw [X9, hrow]) J sWhs (by omega) (by omega) J ?_)))))))))))); rw [k2]
        refine ldWh J J J (XK (by omega) hi2) J (by omega) lWh J ?_
        refine QJ J J J J J lMat J (Qo 1 T.rows.length J J J (by simp [hhl]) J sMat (by omega) (by omega) J ?_); rw [k3]
        refine QJ J J J J (Yk (by omega)) lWhs J ?_
        refine Qo (b + 10) (T.col.length + 1) J J (XK (by omega) hb2) (by rw [X9, hrowb]) J sWhs (by omega) (by omega) J ?_
        rw [k2]
        refine ldWh J J J (XK (by omega) hb2) J (by omega) lWh J ?_
        refine QJ J J J J J lMat J (Qo 1 T.rows.length J J J (by simp [hhl]) J sMat (by omega) (by omega) J ?_); rw [k3]
        refine QJ J J J J (Yk (by omega)) lWhs J ?_
        refine Qo (b + 10) (T.col.length + 1) J J (XK (by omega) hb2) (by rw [X9, hrowb]) J sWhs (by omega) (by omega) J ?_
        rw [k4]
        refine ldWh J J J (XK (by omega) hb2) J (by omega) lWh J ?_
        refine ldWh J J J (XK (by omega) hi2) J (by omega) lWh J ?_
        refine QQ gotimes (times_ok (T.at i T.col.length) (T.at b s) (by omega)) J J J J ?_
        refine QQ gotimes (times_ok (T.at b T.col.length) (T.at i s) (by omega)) J J J J ?_
        refine QQ gominus (minus_ok _) J J J J ?_
        have m1 := mul_short s1 s2; have m2 := neg_short (mul_short s3 s4)
        refine QQ goplus (plus_ok _ _ (by omega) (by omega)) J J J J ?_
        have q1 := sgn_lt (z := T.at i T.col.length * T.at b s + -(T.at b T.col.length * T.at i s)); have q2 := sgn_eq (z := T.at i T.col.length * T.at b s + -(T.at b T.col.length * T.at i s)); generalize T.at i T.col.length * T.at b s + -(T.at b T.col.length * T.at i s) = dd at *; refine QQ gosign (Yi dd) J J J J (Qv J J J (Qj (hK _ _ (Qz (Qy ?_))))); clear hK K; refine Qx (fun K hK => ?_); refine Qq J J J (Qw ilss J J J J (Qq J J J (Qp 75 J (fun h3 => ?_) (fun h3 => ?_))))
        · refine Qk J J J (Qk J J J (Qk J J J (Qk J J J (Qk J J J (Qk J J J (Qk J J J (Qk J J J (Qk J J J (Qk J J J (Qk J J J (Qk J J J (Qk J J J (Qc J J J J (Qj (hK _ _ (Qz (XU J ?_))))))))))))))))); clear hK K; refine Qx (fun K hK => ?_); refine Qq J J J (Qv J J J (Qj (hK _ _ (Qz ?_)))); clear hK K; refine Qx (fun K hK => ?_)
          refine Qw (iadd (by omega) (by omega)) J J J J ?_
          refine Qq J J J (Qj (hK _ _ (Q4 ?_))); clear hK K; refine Qb (i + 1) (by omega) (by omega) (by exact Qu J ⟨rfl, rfl, by rw [es, if_pos (.inl (q1.1 h3))]; rfl, rfl, rfl, by simp only [Int.natCast_add]; rfl, trivial⟩)
        · refine Qq J J J (Qw ieql J J J J (Qq J J J (Qp 78 J (fun h4 => ?_) (fun h4 => ?_))))
          · refine Qq J J J (Qq J J J (Q5 J J J J (QV J J J fT1 J (QJ J J J J J lInts J (Qq J J J (Qo 2 T.bas.length J J J (by simp) J sInts (by omega) (by omega) J ?_)))))); rw [k3]
            refine QJ J J J J (Xi (by omega)) lInt J ?_
            refine Qw ilss J J J J (Qc J J J J (Q6 J J J J (Qj (hK _ _ (Qz ?_))))); clear hK K; refine QK J (fun h5 => ?_) (fun h5 => ?_)
            · refine Qx (fun K hK => ?_); refine Qq J J J (Qv J J J (Qj (hK _ _ (Qz ?_)))); clear hK K; refine Qx (fun K hK => ?_)
              refine Qw (iadd (by omega) (by omega)) J J J J ?_
              refine Qq J J J (Qj (hK _ _ (Q4 ?_))); clear hK K; refine Qb (i + 1) (by omega) (by omega) (by exact Qu J ⟨rfl, rfl, by rw [es, if_pos (.inr ⟨q2.1 h4, h5⟩)]; rfl, rfl, rfl, by simp only [Int.natCast_add]; rfl, trivial⟩)
            · refine QU (Qz (Qx fun K hK => ?_))
              refine Qw (iadd (by omega) (by omega)) J J J J ?_
              refine Qq J J J (Qj (hK _ _ (Q4 ?_))); clear hK K; refine Qb (i + 1) (by omega) (by omega) (by exact Qu J ⟨rfl, rfl, by rw [es, if_neg (fun h => h.elim (fun h => h3 (q1.2 h)) (fun h => h5 h.2))]; rfl, rfl, rfl, by simp only [Int.natCast_add]; rfl, trivial⟩)
          · refine Qk J J J (Qk J J J (Qk J J J (Qk J J J (Qk J J J (Qk J J J (Qk J J J (Qk J J J (Qk J J J (Q6 J J J J (Q6 J J J J (Qj (hK _ _ (Qz (XY J (QU (Qz ?_)))))))))))))))); clear hK K; refine Qx (fun K hK => ?_)
            refine Qw (iadd (by omega) (by omega)) J J J J ?_
            refine Qq J J J (Qj (hK _ _ (Q4 ?_))); clear hK K; refine Qb (i + 1) (by omega) (by omega) (by exact Qu J ⟨rfl, rfl, by rw [es, if_neg (fun h => h.elim (fun h => h3 (q1.2 h)) (fun h => h4 (q2.2 h.1)))]; rfl, rfl, rfl, by simp only [Int.natCast_add]; rfl, trivial⟩)
  · have hjn : i = T.bas.length := by omega
    subst hjn; refine Qr (Qz (Qy (Qx fun K hK => ?_))); refine Qq J J J (Qv J J J (Qj (hK _ _ (Qz (Q2 ?_))))); clear hK K; refine Y3 () [_] rfl (QZ J QX) (by rw [hbest]; rfl) (fun _ => rfl) trivial
def pvZ (p D : Int) (s : Nat) (rr line : List Int) (j : Nat) : Int := if j = s then -(line.getD s 0) else (line.getD j 0 * p + -(rr.getD j 0 * line.getD s 0)).tdiv D
def pvPre (p D : Int) (s : Nat) (rr line : List Int) (q : Nat) : List Int := (List.range line.length).map fun j => if j < q ∧ j ≠ s then pvZ p D s rr line j else line.getD j 0
def pvRow (p D : Int) (s : Nat) (rr line : List Int) : List Int := (List.range line.length).map (pvZ p D s rr line)
def pvRows (T : Tv) (r s q : Nat) : List (List Int) := (List.range T.rows.length).map fun i => if i < q ∧ i ≠ r then pvRow (T.at r s) T.den s (T.rows.getD r []) (T.rows.getD i []) else T.rows.getD i []
def negL (l : List Int) : List Int := l.map (fun z => -z)
def pvt (T : Tv) (r s : Nat) : Tv :=
  let rows := (pvRows T r s T.rows.length).set r ((T.rows.getD r []).set s T.den)
  { T with rows := if T.at r s < 0 then rows.map negL else rows, bas := T.bas.set r (T.col.getD s 0), col := T.col.set s (T.bas.getD r 0), den := if T.at r s < 0 then -(T.at r s) else T.at r s }
theorem pvPre_len (p D : Int) (s : Nat) (rr line : List Int) (q : Nat) : (pvPre p D s rr line q).length = line.length := by simp [pvPre]
theorem pvRow_len (p D : Int) (s : Nat) (rr line : List Int) : (pvRow p D s rr line).length = line.length := by simp [pvRow]
theorem Yn (T : Tv) (r s q : Nat) : (pvRows T r s q).length = T.rows.length := by simp [pvRows]
theorem Zb {α : Type} (n : Nat) (f : Nat → α) (d : α) {j : Nat} (h : j < n) : ((List.range n).map f).getD j d = f j := by simp [List.getD_eq_getElem?_getD, h]
theorem YY {α : Type} (l : List α) (d : α) : (List.range l.length).map (fun j => l.getD j d) = l := by
  apply List.ext_getElem (by simp)
  intro j h1 h2; simp [List.getD_eq_getElem?_getD, h2]
theorem Y0 {α : Type} (n : Nat) (f g : Nat → α) (q : Nat) (x : α) (hq : q < n) (h : ∀ j, j < n → g j = if j = q then x else f j) : ((List.range n).map f).set q x = (List.range n).map g := by
  apply List.ext_getElem (by simp)
  intro j h1 h2; simp only [List.length_map, List.length_range] at h2; rw [List.getElem_set]; simp only [List.getElem_map, List.getElem_range]; rw [h j h2]; by_cases e : q = j
  · subst e; simp
  · rw [if_neg e, if_neg (Ne.symm e)]
theorem pvPre_zero (p D : Int) (s : Nat) (rr line : List Int) : pvPre p D s rr line 0 = line := by
  unfold pvPre
  have : (fun j => if j < 0 ∧ j ≠ s then pvZ p D s rr line j else line.getD j 0) = fun j => line.getD j 0 := by funext j; rw [if_neg (by omega)]
  rw [this, YY]
theorem pvPre_at (p D : Int) (s : Nat) (rr line : List Int) (q j : Nat) (h : j < line.length) (hq : q ≤ j ∨ j = s) : (pvPre p D s rr line q).getD j 0 = line.getD j 0 := by
  unfold pvPre; rw [Zb _ _ _ h, if_neg (by omega)]
theorem pvPre_skip (p D : Int) (s : Nat) (rr line : List Int) (q : Nat) (hq : q = s ∨ pvZ p D s rr line q = line.getD q 0) : pvPre p D s rr line (q + 1) = pvPre p D s rr line q := by
  unfold pvPre
  congr 1
  funext j
  by_cases h : j < q ∧ j ≠ s
  · rw [if_pos h, if_pos ⟨by omega, h.2⟩]
  · rw [if_neg h]; by_cases h2 : j < q + 1 ∧ j ≠ s
    · rw [if_pos h2]
      have : j = q := by omega
      subst this; rcases hq with hq | hq
      · omega
      · exact hq
    · rw [if_neg h2]
theorem pvPre_set (p D : Int) (s : Nat) (rr line : List Int) (q : Nat) (h : q < line.length) (hq : q ≠ s) : (pvPre p D s rr line q).set q (pvZ p D s rr line q) = pvPre p D s rr line (q + 1) := by
  unfold pvPre; refine Y0 _ _ _ q _ h (fun j hj => ?_); by_cases e : j = q
  · subst e; rw [if_pos rfl, if_pos ⟨by omega, hq⟩]
  · rw [if_neg e]; by_cases h2 : j < q ∧ j ≠ s
    · rw [if_pos h2, if_pos ⟨by omega, h2.2⟩]
    · rw [if_neg h2, if_neg (by omega)]
theorem pvPre_done (p D : Int) (s : Nat) (rr line : List Int) (h : s < line.length) : (pvPre p D s rr line line.length).set s (-(line.getD s 0)) = pvRow p D s rr line := by
  unfold pvPre pvRow; refine Y0 _ _ _ s _ h (fun j hj => ?_); by_cases e : j = s
  · subst e; rw [if_pos rfl]; unfold pvZ; rw [if_pos rfl]
  · rw [if_neg e, if_pos ⟨hj, e⟩]
theorem pvZ_zero {p D : Int} {s : Nat} {rr line : List Int} {j : Nat} (hj : j ≠ s) (h : line.getD j 0 = 0) (h2 : line.getD s 0 = 0 ∨ rr.getD j 0 = 0) : pvZ p D s rr line j = line.getD j 0 := by
  unfold pvZ; rw [if_neg hj, h]; rcases h2 with h2 | h2 <;> rw [h2] <;> simp
theorem pvRow_same {D : Int} {s : Nat} {rr line : List Int} (hD : D ≠ 0) (h : line.getD s 0 = 0) : pvRow D D s rr line = line := by
  unfold pvRow
  have : (pvZ D D s rr line) = fun j => line.getD j 0 := by
    funext j
    unfold pvZ; split
    · rename_i e; subst e; rw [h]; rfl
    · rw [h, Int.mul_zero, Int.neg_zero, Int.add_zero, Int.mul_tdiv_cancel _ hD]
  rw [this, YY]
theorem pvRows_zero (T : Tv) (r s : Nat) : pvRows T r s 0 = T.rows := by
  unfold pvRows
  have : (fun i => if i < 0 ∧ i ≠ r then pvRow (T.at r s) T.den s (T.rows.getD r []) (T.rows.getD i []) else T.rows.getD i []) = fun i => T.rows.getD i [] := by funext i; rw [if_neg (by omega)]
  rw [this, YY]
theorem pvRows_at (T : Tv) (r s q i : Nat) (h : i < T.rows.length) (hq : q ≤ i ∨ i = r) : (pvRows T r s q).getD i [] = T.rows.getD i [] := by
  unfold pvRows; rw [Zb _ _ _ h, if_neg (by omega)]
theorem pvRows_skip (T : Tv) (r s q : Nat) (hq : q = r ∨ pvRow (T.at r s) T.den s (T.rows.getD r []) (T.rows.getD q []) = T.rows.getD q []) : pvRows T r s (q + 1) = pvRows T r s q := by
  unfold pvRows
  congr 1
  funext j
  by_cases h : j < q ∧ j ≠ r
  · rw [if_pos h, if_pos ⟨by omega, h.2⟩]
  · rw [if_neg h]; by_cases h2 : j < q + 1 ∧ j ≠ r
    · rw [if_pos h2]
      have : j = q := by omega
      subst this; rcases hq with hq | hq
      · omega
      · exact hq
    · rw [if_neg h2]
theorem pvRows_set (T : Tv) (r s q : Nat) (h : q < T.rows.length) (hq : q ≠ r) : (pvRows T r s q).set q (pvRow (T.at r s) T.den s (T.rows.getD r []) (T.rows.getD q [])) = pvRows T r s (q + 1) := by
  unfold pvRows; refine Y0 _ _ _ q _ h (fun j hj => ?_); by_cases e : j = q
  · subst e; rw [if_pos rfl, if_pos ⟨by omega, hq⟩]
  · rw [if_neg e]; by_cases h2 : j < q ∧ j ≠ r
    · rw [if_pos h2, if_pos ⟨by omega, h2.2⟩]
    · rw [if_neg h2, if_neg (by omega)]
def negP (l : List Int) (q : Nat) : List Int := (List.range l.length).map fun j => if j < q then -(l.getD j 0) else l.getD j 0
def negR (l : List (List Int)) (q : Nat) : List (List Int) := (List.range l.length).map fun j => if j < q then negL (l.getD j []) else l.getD j []
theorem negP_len (l : List Int) (q : Nat) : (negP l q).length = l.length := by simp [negP]
theorem negR_len (l : List (List Int)) (q : Nat) : (negR l q).length = l.length := by simp [negR]
theorem negP_zero (l : List Int) : negP l 0 = l := by
  unfold negP
  have : (fun j => if j < 0 then -(l.getD j 0) else l.getD j 0) = fun j => l.getD j 0 := by funext j; rw [if_neg (by omega)]
  rw [this, YY]
theorem negR_zero (l : List (List Int)) : negR l 0 = l := by
  unfold negR
  have : (fun j => if j < 0 then negL (l.getD j []) else l.getD j []) = fun j => l.getD j [] := by funext j; rw [if_neg (by omega)]
  rw [this, YY]
theorem negP_at (l : List Int) (q : Nat) (h : q < l.length) : (negP l q).getD q 0 = l.getD q 0 := by unfold negP; rw [Zb _ _ _ h, if_neg (by omega)]
theorem negR_at (l : List (List Int)) (q : Nat) (h : q < l.length) : (negR l q).getD q [] = l.getD q [] := by unfold negR; rw [Zb _ _ _ h, if_neg (by omega)]
theorem negP_set (l : List Int) (q : Nat) (h : q < l.length) : (negP l q).set q (-(l.getD q 0)) = negP l (q + 1) := by
  unfold negP; refine Y0 _ _ _ q _ h (fun j hj => ?_); by_cases e : j = q
  · subst e; rw [if_pos rfl, if_pos (by omega)]
  · rw [if_neg e]; by_cases h2 : j < q
    · rw [if_pos h2, if_pos (by omega)]
    · rw [if_neg h2, if_neg (by omega)]
theorem negR_set (l : List (List Int)) (q : Nat) (h : q < l.length) : (negR l q).set q (negL (l.getD q [])) = negR l (q + 1) := by
  unfold negR; refine Y0 _ _ _ q _ h (fun j hj => ?_); by_cases e : j = q
  · subst e; rw [if_pos rfl, if_pos (by omega)]
  · rw [if_neg e]; by_cases h2 : j < q
    · rw [if_pos h2, if_pos (by omega)]
    · rw [if_neg h2, if_neg (by omega)]
theorem negP_done (l : List Int) : negP l l.length = negL l := by
  unfold negP negL
  apply List.ext_getElem (by simp)
  intro j h1 h2; simp only [List.length_map, List.length_range] at h1; simp [List.getD_eq_getElem?_getD, h1]
theorem negR_done (l : List (List Int)) : negR l l.length = l.map negL := by
  unfold negR
  apply List.ext_getElem (by simp)
  intro j h1 h2; simp only [List.length_map, List.length_range] at h1; simp [List.getD_eq_getElem?_getD, h1]
end Go.Proofs.YtdhmbgogmoaofaaGreat
namespace Go.Own
theorem Zv {X : Ctx} {L L' : AL} {B : BL} {K : Act → World → Prop} (h : Fin X L' B K) (hs : subL L L') : Fin X L B K := Fin.keep L' hs h
end Go.Own
namespace Go.Proofs.YtdhmbgogmoaofaaGreat
open Go.Own Go.Limbs
attribute [local irreducible] St Ops Go.Own.Fin Ok OkM
abbrev tb (T : Tv) (rows : List (List Int)) (bas col : List Int) (den : Int) : BL :=
  (0, .box 98 [.ex T.hR, .ex T.hB, .ex T.hC, boolC (decide (den < 0)), natC den.natAbs]) :: (1, .rowx T.hR 95 1 (T.hl.map CT.ex)) :: (2, .rowx T.hB 3 1 (ints bas)) :: (3, .rowx T.hC 3 1 (ints col)) :: linesB 10 T.hl rows
abbrev unitC : CT := .fr (tupT [])
theorem Z2 {α : Type} {l : List α} {i j : Nat} {x d : α} (h : i < l.length) : (l.set i x).getD j d = if i = j then x else l.getD j d := by
  simp only [List.getD_eq_getElem?_getD, List.getElem?_set]; by_cases hp : i = j
  · subst hp; simp [h]
  · simp [hp]
theorem bdel_lines : ∀ (k : Nat) (hl : List Value) (zs : List (List Int)) (j : Nat), j < k → bdel (linesB k hl zs) j = linesB k hl zs
  | _, [], _, _, _ => by simp [linesB, bdel]
  | _, _ :: _, [], _, _ => by simp [linesB, bdel]
  | k, h :: hl, z :: zs, j, hj => by
    have : Nat.beq k j = false := beq_ne (by omega)
    simp only [linesB, bdel, this]
    rw [bdel_lines (k + 1) hl zs j (by omega)]
theorem del5 {T : Tv} {rows : List (List Int)} {bas col : List Int} {den : Int} {e e4 : Ent} : bdel ((5, e) :: (4, e4) :: tb T rows bas col den) 5 = (4, e4) :: tb T rows bas col den := by
  show (4, e4) :: (0, _) :: (1, _) :: (2, _) :: (3, _) :: bdel (linesB 10 T.hl rows) 5 = _; rw [bdel_lines _ _ _ _ (by decide)]
theorem del4 {T : Tv} {rows : List (List Int)} {bas col : List Int} {den : Int} {e4 : Ent} : bdel ((4, e4) :: tb T rows bas col den) 4 = tb T rows bas col den := by
  show (0, _) :: (1, _) :: (2, _) :: (3, _) :: bdel (linesB 10 T.hl rows) 4 = _; rw [bdel_lines _ _ _ _ (by decide)]
theorem set_line5 {T : Tv} {rows : List (List Int)} {bas col : List Int} {den : Int} {e5 e4 : Ent} {i : Nat} (y : List Int) (h1 : i < T.hl.length) (h2 : i < rows.length) : bset ((5, e5) :: (4, e4) :: tb T rows bas col den) (i + 10) (.rowx (T.hl.getD i default) 94 2 (whs y)) = (5, e5) :: (4, e4) :: tb T (rows.set i y) bas col den := by
  rw [YQ J, YQ J, YQ J, YQ J, YQ J, YQ J, lines_set y h1 h2]
theorem set_line4 {T : Tv} {rows : List (List Int)} {bas col : List Int} {den : Int} {e4 : Ent} {i : Nat} (y : List Int) (h1 : i < T.hl.length) (h2 : i < rows.length) : bset ((4, e4) :: tb T rows bas col den) (i + 10) (.rowx (T.hl.getD i default) 94 2 (whs y)) = (4, e4) :: tb T (rows.set i y) bas col den := by
  rw [YQ J, YQ J, YQ J, YQ J, YQ J, lines_set y h1 h2]
theorem pvt_pos {T : Tv} {r s : Nat} {p : Int} (hp : T.at r s = p) (h : ¬ p < 0) : tabB (pvt T r s) = tb T ((pvRows T r s T.rows.length).set r ((T.rows.getD r []).set s T.den)) (T.bas.set r (T.col.getD s 0)) (T.col.set s (T.bas.getD r 0)) p := by
  simp only [pvt, tabB, hp, if_neg h]
theorem pvt_neg {T : Tv} {r s : Nat} {p : Int} (hp : T.at r s = p) (h : p < 0) : tabB (pvt T r s) = tb T (((pvRows T r s T.rows.length).set r ((T.rows.getD r []).set s T.den)).map negL) (T.bas.set r (T.col.getD s 0)) (T.col.set s (T.bas.getD r 0)) (-p) := by
  simp only [pvt, tabB, hp, if_pos h]
theorem gopivot : InGo Tryz.prog 127 := InGo.of Tryz.func127 (by kernel_rfl) (by kernel_rfl)
set_option maxHeartbeats 32000000 in
theorem pivot_ok (T : Tv) (hF : Fit T) (hS : Shrt T) (hD : 0 < T.den) (hDs : (limbs T.den.natAbs).length ≤ 60) (r s : Nat) (hr : r < T.bas.length) (hs : s < T.col.length) : OkM Tryz.prog 127 [.own 0, .ct (intC r), .ct (intC s)] (tabB T) [0] (fun _ : Unit => True) (fun _ => .ct unitC) (fun _ => tabB (pvt T r s)) := by
  have hfew := hF.few; have hthin := hF.thin; have hhl := hF.hl; have hbas := hF.bas
  have hr2 : r < T.rows.length := by omega
  have hrowr := hF.row r hr2
  have kr : (r : Int).toNat * 1 = r := by omega
  have ks : (s : Int).toNat * 2 = s * 2 := by omega
  have ks1 : (s : Int).toNat * 1 = s := by omega
  have sp := hS r s
  refine OkM.enter Tryz.func127 J _ Tryz.ntmps127 J (tab_fx T) ?_
  intro S w ρ0 hbor; show St _ _ (tb T T.rows T.bas T.col T.den) _ _; generalize hp : T.at r s = p at *; refine Qy (Qx fun K hK => ?_); refine Qq J J J (Q5 J J J J (QV J J J fT0 J (QJ J J J J J lMat J (Qq J J J (Qo 1 T.rows.length J J J (by simp [hhl]) J sMat (by omega) (by omega) J ?_))))); rw [kr]
  refine QJ J J J J (Yk (by omega)) lWhs J ?_
  refine Qq J J J (Qo (r + 10) (T.col.length + 1) J J (XK (by omega) hr2) (by rw [X9, hrowr]) J sWhs (by omega) (by omega) J ?_); rw [ks]
  refine ldWh J J J (XK (by omega) hr2) J (by omega) lWh J ?_
  rw [show (T.rows.getD r []).getD s 0 = p from hp]
  refine Qf 4 J J zvWh J (by exact Zl 10 _ _ 4 (by decide)) J ?_
  refine Qa 2 J J J J J szWh J J (Qj (hK _ _ (Qz (Qy ?_)))); clear hK K; refine Xv mixed 10 (.p 1 (.p 2 (.p 3 (.f 0 (.f 4 (.m 5 (.m 6 (.m 7 (.p 8 (.p 9 .done)))))))))) (by kernel_rfl) (fun K hK => ?_); refine Qq J J J (Q5 J J J J (QV J J J fT3 J (Qt (n := 2) J J J J J lWh J (Zc (n := 2) J J J J (Nat.le_of_ble_eq_true J) lWh J (QQ gominus (minus_ok T.den) J J J J (QQ goplus (plus_ok p (-T.den) (by omega) (Nat.le_trans (neg_short hDs) (by decide))) J J J J ?_)))))); refine QQ gosign (Yi _) J J J J (Qw ieql J J J J (Qv J J J (Qj (hK _ _ (Qz (Qy (Qy ?_))))))); clear hK K; refine Qx (fun K hK => ?_); refine Qq J J J (Q5 J J J J (QV J J J fT0 J (QJ J J J J J lMat J (ZK 1 T.rows.length J J J (by decide) (by simp [hhl]) sMat.und J ?_)))); refine Qq J J J (Qj (hK _ _ (Qz (Q0 ?_)))); clear hK K
  refine Xq (α := Nat) (fun i => i ≤ T.rows.length)
    (fun i => [(0, .own 0), (1, .ct (intC r)), (2, .ct (intC s)), (6, .own 4), (7, .ct (boolC (decide ((p + -T.den).sign = 0)))), (37, .ct (.ex T.hR)), (38, .ct (intC T.rows.length)), (39, .ct (intC i))])
    (fun i => (4, .box 94 (whCs p)) :: tb T (pvRows T r s i) T.bas T.col T.den) (fun i => T.rows.length - i) 0 (Nat.zero_le _) (by exact Qu (by rw [pvRows_zero]; rfl) ⟨rfl, rfl, rfl, rfl, rfl, rfl, rfl, rfl, trivial⟩) ?_
  intro i hi; dsimp only at hi ⊢; have hrl := Yn T r s i; refine Qy (Qx fun K hK => ?_); refine Qw ilss J J J J (Qj (hK _ _ (Qz (Qy ?_)))); clear hK K; refine QK J (fun h => ?_) (fun h => ?_)
  · have hi2 : i < T.rows.length := by omega
    have hrow := hF.row i hi2
    have ki : (i : Int).toNat * 1 = i := by omega
    have eline := pvRows_at T r s i i hi2 (.inl (Nat.le_refl _)); have erow := pvRows_at T r s i r hr2 (by omega); have sf := hS i s; generalize hf : T.at i s = f at *; have eskip := pvRows_skip T r s i; refine QU (Qz (Qy (Q0 (Qy (Qx fun K hK => ?_))))); refine Qq J J J (Qo 1 T.rows.length J J J (by simp [hhl]) J sMat (by omega) (by omega) J ?_); rw [ki]
    refine QJ J J J J (Yk (by omega)) lWhs J ?_
    refine Qv J J J (Qv J J J (Qj (hK _ _ (Qz (Qy ?_))))); clear hK K; refine Qx (fun K hK => ?_); refine Qq J J J (Qq J J J (Qo (i + 10) (T.col.length + 1) J J (XK (by omega) (by omega)) (by rw [X9, eline, hrow]) J sWhs (by omega) (by omega) J ?_)); rw [ks]
    refine ldWh J J J (XK (by omega) (by omega)) J (by rw [eline]; omega) lWh J ?_
    rw [eline, show (T.rows.getD i []).getD s 0 = f from hf]
    refine Qf 5 J J zvWh J (by exact Zl 10 _ _ 5 (by decide)) J ?_
    refine Qa 2 J J J J J szWh J J (Qj (hK _ _ (Qz (Qy (Qy ?_))))); clear hK K; refine Qx (fun K hK => ?_); refine Qq J J J (Qq J J J (Qw ieql J J J J (Qq J J J ((fun (cont : ∀ b : Bool, (b = true → i = r ∨ (p = T.den ∧ f = 0)) → (b = false → i ≠ r) → Go.Own.Fin _ [(58, .ct (boolC b)), (0, .own 0), (1, .ct (intC r)), (2, .ct (intC s)), (6, .own 4), (7, .ct (boolC (decide ((p + -T.den).sign = 0)))), (8, .ct (intC i)), (9, .ct (.ex (T.hl.getD i default))), (10, .own 5), (37, .ct (.ex T.hR)), (38, .ct (intC T.rows.length)), (39, .ct (intC i))] ((5, .box 94 (whCs f)) :: (4, .box 94 (whCs p)) :: tb T (pvRows T r s i) T.bas T.col T.den) K) => ?_) (fun b hb1 hb2 => hK _ _ ?_)))))
    · clear hK; refine Qp 51 J (fun h1 => ?_) (fun h1 => ?_)
      · refine Qk J J J (Qk J J J (Qk J J J (Qk J J J (Qk J J J (Qk J J J (Qc J J J J ?_)))))); exact Qj (Zv (cont true (fun _ => .inl (by omega)) (fun h => by cases h)) ⟨rfl, rfl, rfl, rfl, rfl, rfl, rfl, rfl, rfl, rfl, rfl, rfl, trivial⟩)
      · have hir : i ≠ r := fun e => h1 (by omega)
        refine Qq J J J (Qq J J J (Qp 53 J (fun h2 => ?_) (fun h2 => ?_)))
        · refine Qt (n := 2) J J J J J lWh J (QQ gosign (Yi f) J J J J (Qw ieql J J J J (Qc J J J J (Q6 J J J J (Qj (Zv (cont (decide (f.sign = 0)) (fun h => .inr ⟨?_, sgn_eq.1 (of_decide_eq_true h)⟩) (fun _ => hir)) ⟨rfl, rfl, rfl, rfl, rfl, rfl, rfl, rfl, rfl, rfl, rfl, rfl, trivial⟩)))))); have := sgn_eq.1 h2; omega
        · refine Qk J J J (Qk J J J (Qk J J J (Q6 J J J J (Q6 J J J J ?_)))); exact Qj (Zv (cont false (fun h => by cases h) (fun _ => hir)) ⟨rfl, rfl, rfl, rfl, rfl, rfl, rfl, rfl, rfl, rfl, rfl, rfl, trivial⟩)
    clear hK K; refine Qz (Za J (fun hb => ?_) (fun hb => ?_))
    · have hskip : pvRows T r s (i + 1) = pvRows T r s i := eskip (by
        rcases hb1 hb with h | ⟨h, h'⟩
        · exact .inl h
        · exact .inr (by rw [hp, h]; exact pvRow_same (by omega) (by rw [h'] at hf; exact hf)))
      refine Qr (Qz (Qx fun K hK => ?_))
      refine Qw (iadd (by omega) (by omega)) J J J J ?_
      refine Qq J J J (Qj (hK _ _ (Q4 ?_))); clear hK K; refine Qb (i + 1) (by omega) (by omega) (by exact Yx 5 (Qu (by rw [hskip]; exact del5) ⟨rfl, rfl, rfl, rfl, rfl, rfl, rfl, by simp only [Int.natCast_add]; rfl, trivial⟩))
    · have hir := hb2 hb; clear hb1 hb2 hb eskip; have edone := pvRows_set T r s i hi2 hir; rw [hp] at edone
      have erowR : ∀ y, ((pvRows T r s i).set i y).getD r [] = T.rows.getD r [] := fun y => by rw [Z2 (by omega), if_neg hir]; exact erow
      have elineI : ∀ y, ((pvRows T r s i).set i y).getD i [] = y := fun y => by rw [Z2 (by omega), if_pos J]
      have hslen : ∀ y, ((pvRows T r s i).set i y).length = T.rows.length := fun y => by rw [List.length_set, hrl]
      refine QU (Qz (Qy (Qy (Qx fun K hK => ?_)))); refine Qq J J J (ZK (i + 10) (T.col.length + 1) J J (XK (by omega) (by omega)) (by decide) (by rw [X9, eline, hrow]) sWhs.und J ?_); refine Qq J J J (Qj (hK _ _ (Qz (Q0 ?_)))); clear hK K; have hs0 : pvPre p T.den s (T.rows.getD r []) (T.rows.getD i []) 0 = T.rows.getD i [] := pvPre_zero ..
      have hst0 : (pvRows T r s i).set i (T.rows.getD i []) = pvRows T r s i := by
        rw [← eline]
        apply List.ext_getElem (by simp)
        intro j h1 h2; rw [List.getElem_set]; split
        · rename_i e; subst e; simp [List.getD_eq_getElem?_getD, h2]
        · rfl
      refine Xq (α := Nat) (fun q => q ≤ T.col.length + 1)
        (fun q => [(0, .own 0), (1, .ct (intC r)), (2, .ct (intC s)), (6, .own 4), (7, .ct (boolC (decide ((p + -T.den).sign = 0)))), (8, .ct (intC i)), (9, .ct (.ex (T.hl.getD i default))), (10, .own 5), (37, .ct (.ex T.hR)), (38, .ct (intC T.rows.length)), (39, .ct (intC i)), (60, .ct (intC ((T.col.length + 1 : Nat) : Int))), (61, .ct (intC q))])
        (fun q => (5, .box 94 (whCs f)) :: (4, .box 94 (whCs p)) :: tb T ((pvRows T r s i).set i (pvPre p T.den s (T.rows.getD r []) (T.rows.getD i []) q)) T.bas T.col T.den)
        (fun q => T.col.length + 1 - q) 0 (Nat.zero_le _) (by exact Qu (by rw [hs0, hst0]) ⟨rfl, rfl, rfl, rfl, rfl, rfl, rfl, rfl, rfl, rfl, rfl, rfl, rfl, trivial⟩) ?_
      intro q hq; dsimp only at hq ⊢; have hpl := pvPre_len p T.den s (T.rows.getD r []) (T.rows.getD i []) q; have hpat := pvPre_at p T.den s (T.rows.getD r []) (T.rows.getD i []) q; have hpskip := pvPre_skip p T.den s (T.rows.getD r []) (T.rows.getD i []) q; have hpset := pvPre_set p T.den s (T.rows.getD r []) (T.rows.getD i []) q
      have hpz : q ≠ s → pvZ p T.den s (T.rows.getD r []) (T.rows.getD i []) q = ((T.rows.getD i []).getD q 0 * p + -((T.rows.getD r []).getD q 0 * f)).tdiv T.den := fun h => by
        unfold pvZ; rw [if_neg h, show (T.rows.getD i []).getD s 0 = f from hf]
      have hpz0 : q ≠ s → (T.rows.getD i []).getD q 0 = 0 → (f = 0 ∨ (T.rows.getD r []).getD q 0 = 0) → pvZ p T.den s (T.rows.getD r []) (T.rows.getD i []) q = (T.rows.getD i []).getD q 0 := fun h h1 h2 => pvZ_zero h h1 (by rw [show (T.rows.getD i []).getD s 0 = f from hf]; exact h2)
      have hpdone := pvPre_done p T.den s (T.rows.getD r []) (T.rows.getD i []); generalize hPP : pvPre p T.den s (T.rows.getD r []) (T.rows.getD i []) q = cur at *; refine Qy (Qx fun K hK => ?_); refine Qw ilss J J J J (Qj (hK _ _ (Qz (Qy ?_)))); clear hK K; refine QK J (fun h2 => ?_) (fun h2 => ?_)
      · have hq2 : q < T.col.length + 1 := by omega
        have kq : (q : Int).toNat * 2 = q * 2 := by omega
        have hget : bget (linesB 10 T.hl ((pvRows T r s i).set i cur)) (i + 10) = some (.rowx (T.hl.getD i default) 94 2 (whs cur)) := by
          have := XK (k := 10) (hl := T.hl) (zs := (pvRows T r s i).set i cur) (i := i) (by omega) (by rw [hslen]; omega)
          rwa [elineI] at this
        have hgetr : bget (linesB 10 T.hl ((pvRows T r s i).set i cur)) (r + 10) = some (.rowx (T.hl.getD r default) 94 2 (whs (T.rows.getD r []))) := by
          have := XK (k := 10) (hl := T.hl) (zs := (pvRows T r s i).set i cur) (i := r) (by omega) (by rw [hslen]; omega)
          rwa [erowR] at this
        have ecur := hpat q (by omega) (.inl (Nat.le_refl _)); have sz := hS i q; have sr := hS r q; have hsz : (T.rows.getD i []).getD q 0 = T.at i q := rfl; have hsr : (T.rows.getD r []).getD q 0 = T.at r q := rfl; rw [hsz] at ecur hpz hpz0; rw [hsr] at hpz hpz0; generalize T.at i q = z at *; generalize T.at r q = y at *; refine QU (Qz (Qy (Q0 (Qy (Qx fun K hK => ?_))))); refine Qq J J J (Qv J J J (Qj (hK _ _ (Qz (Qy ?_))))); clear hK K; refine Qx (fun K hK => ?_); refine Qq J J J (Qq J J J (Qw ineq J J J J (Qq J J J ((fun (cont : ∀ b : Bool, (b = true → q ≠ s) → (b = false → q = s ∨ pvZ p T.den s (T.rows.getD r []) (T.rows.getD i []) q = z) → Go.Own.Fin _ [(93, .ct (boolC b)), (0, .own 0), (1, .ct (intC r)), (2, .ct (intC s)), (6, .own 4), (7, .ct (boolC (decide ((p + -T.den).sign = 0)))), (8, .ct (intC i)), (9, .ct (.ex (T.hl.getD i default))), (10, .own 5), (11, .ct (intC q)), (37, .ct (.ex T.hR)), (38, .ct (intC T.rows.length)), (39, .ct (intC i)), (60, .ct (intC ((T.col.length + 1 : Nat) : Int))), (61, .ct (intC q))] ((5, .box 94 (whCs f)) :: (4, .box 94 (whCs p)) :: tb T ((pvRows T r s i).set i cur) T.bas T.col T.den) K) => ?_) (fun b hb1 hb2 => hK _ _ ?_)))))
        · clear hK; refine Qp 67 J (fun h1 => ?_) (fun h1 => ?_)
          · have hqs : q ≠ s := fun e => h1 (by omega)
            refine Qq J J J (Qq J J J (Qo (i + 10) (T.col.length + 1) J J hget (by rw [X9, hpl, hrow]) J sWhs (by omega) (by omega) J ?_)); rw [kq]
            refine ldWh J J J hget J (by omega) lWh J ?_
            rw [ecur]; refine QQ gosign (Yi z) J J J J (Qw ineq J J J J (Qq J J J (Qp 74 J (fun h3 => ?_) (fun h3 => ?_))))
            · refine Qk J J J (Qk J J J (Qk J J J (Qk J J J (Qk J J J (Qk J J J (Qk J J J (Qk J J J (Qk J J J (Qk J J J (Qk J J J (Qk J J J (Qk J J J (Qk J J J (Qk J J J (Qk J J J (Qk J J J (Qc J J J J (Qc J J J J ?_)))))))))))))))))); exact Qj (Zv (cont true (fun _ => hqs) (fun h => by cases h)) ⟨rfl, rfl, rfl, rfl, rfl, rfl, rfl, rfl, rfl, rfl, rfl, rfl, rfl, rfl, rfl, trivial⟩)
            · have hz0 : z = 0 := sgn_eq.1 (by omega); refine Qt (n := 2) J J J J J lWh J (QQ gosign (Yi f) J J J J (Qw ineq J J J J (Qq J J J (Qp 78 J (fun h4 => ?_) (fun h4 => ?_)))))
              · refine Qq J J J (Q5 J J J J (QV J J J fT0 J (QJ J J J J J lMat J (Qq J J J (Qo 1 T.rows.length J J J (by simp [hhl]) J sMat (by omega) (by omega) J ?_))))); rw [kr]
                refine QJ J J J J (Yk (by omega)) lWhs J ?_
                refine Qq J J J (Qo (r + 10) (T.col.length + 1) J J hgetr (by rw [X9, hrowr]) J sWhs (by omega) (by omega) J ?_); rw [kq]
                refine ldWh J J J hgetr J (by omega) lWh J ?_
                rw [hsr]; refine QQ gosign (Yi y) J J J J (Qw ineq J J J J (Qc J J J J (Q6 J J J J (Qc J J J J ?_)))); exact Qj (Zv (cont (decide (y.sign ≠ 0)) (fun _ => hqs) (fun h => .inr (hpz0 hqs hz0 (.inr (sgn_eq.1 (by have := of_decide_eq_false h; omega)))))) ⟨rfl, rfl, rfl, rfl, rfl, rfl, rfl, rfl, rfl, rfl, rfl, rfl, rfl, rfl, rfl, trivial⟩)
              · refine Qk J J J (Qk J J J (Qk J J J (Qk J J J (Qk J J J (Qk J J J (Qk J J J (Qk J J J (Qk J J J (Qk J J J (Qk J J J (Qk J J J (Q6 J J J J (Q6 J J J J (Qc J J J J ?_)))))))))))))); exact Qj (Zv (cont false (fun h => by cases h) (fun _ => .inr (hpz0 hqs hz0 (.inl (sgn_eq.1 (by omega)))))) ⟨rfl, rfl, rfl, rfl, rfl, rfl, rfl, rfl, rfl, rfl, rfl, rfl, rfl, rfl, rfl, trivial⟩)
          · refine Qk J J J (Qk J J J (Qk J J J (Qk J J J (Qk J J J (Qk J J J (Qk J J J (Qk J J J (Qk J J J (Qk J J J (Qk J J J (Qk J J J (Qk J J J (Qk J J J (Qk J J J (Qk J J J (Qk J J J (Qk J J J (Qk J J J (Qk J J J (Qk J J J (Qk J J J (Qk J J J (Qk J J J (Qk J J J (Q6 J J J J ?_))))))))))))))))))))))))); exact Qj (Zv (cont false (fun h => by cases h) (fun _ => .inl (by omega))) ⟨rfl, rfl, rfl, rfl, rfl, rfl, rfl, rfl, rfl, rfl, rfl, rfl, rfl, rfl, rfl, trivial⟩)
        clear hK K; refine Qz (Za J (fun hb => ?_) (fun hb => ?_))
        · have hqs := hb1 hb; clear hb1 hb2 hb; refine Qy (Xv mixed 23 (.p 0 (.p 1 (.p 2 (.p 3 (.p 4 (.p 8 (.p 9 (.p 10 (.p 12 (.p 15 (.f 5 (.f 6 (.f 11 (.p 13 (.f 14 (.p 16 (.f 17 (.f 18 (.m 7 (.m 19 (.m 20 (.m 21 (.p 22 (.a 23 .done)))))))))))))))))))))))) (by kernel_rfl) (fun K hK => ?_)); refine Qq J J J (Qq J J J (Qq J J J (Qq J J J (Qo (i + 10) (T.col.length + 1) J J hget (by rw [X9, hpl, hrow]) J sWhs (by omega) (by omega) J ?_)))); rw [kq]; refine Qq J J J (Q5 J J J J (QV J J J fT0 J (Qq J J J (Qq J J J (ldWh J J J hget J (by omega) lWh J ?_))))); rw [ecur]; refine Qt (n := 2) J J J J J lWh J (QJ J J J J J lMat J (Qo 1 T.rows.length J J J (by simp [hhl]) J sMat (by omega) (by omega) J ?_)); rw [kr]
          refine QJ J J J J (Yk (by omega)) lWhs J ?_
          refine Qo (r + 10) (T.col.length + 1) J J hgetr (by rw [X9, hrowr]) J sWhs (by omega) (by omega) J ?_
          rw [kq]
          refine ldWh J J J hgetr J (by omega) lWh J ?_
          rw [hsr]; refine Qt (n := 2) J J J J J lWh J (QQ gotimes (times_ok z p (by omega)) J J J J ?_)
          refine QQ gotimes (times_ok y f (by omega)) J J J J ?_
          refine QQ gominus (minus_ok _) J J J J ?_
          have m1 := mul_short sz sp; have m2 := neg_short (mul_short sr sf)
          refine QQ goplus (plus_ok _ _ (by omega) (by omega)) J J J J ?_
          have m3 : (limbs (z * p + -(y * f)).natAbs).length ≤ 121 := by
            refine Nat.le_trans (XW (Int.natAbs_add_le _ _)) (Qg ?_); have a1 := X8 m1; have a2 := X8 m2; have : (1073741824 : Nat) ^ 121 = 1073741824 ^ 120 * 1073741824 := rfl; omega
          generalize z * p + -(y * f) = v1 at *
          refine Qo (i + 10) (T.col.length + 1) J J hget (by rw [X9, hpl, hrow]) J sWhs (by omega) (by omega) J ?_
          rw [kq]
          refine stWhX J J hget J (by omega) szWh ?_
          rw [set_line5 (cur.set q v1) (by omega) (by rw [hslen]; omega), List.set_set]
          have hget2 : bget (linesB 10 T.hl ((pvRows T r s i).set i (cur.set q v1))) (i + 10) = some (.rowx (T.hl.getD i default) 94 2 (whs (cur.set q v1))) := by
            have := XK (k := 10) (hl := T.hl) (zs := (pvRows T r s i).set i (cur.set q v1)) (i := i) (by omega) (by rw [hslen]; omega)
            rwa [elineI] at this
          have ecur2 : (cur.set q v1).getD q 0 = v1 := by rw [getD_set (by omega), if_pos J]
          refine Qj (hK _ _ (Qz ?_)); clear hK K; refine Xv mixed 12 (.p 0 (.p 1 (.p 2 (.p 3 (.p 4 (.p 6 (.p 7 (.p 8 (.f 5 (.f 9 (.m 10 (.p 11 (.a 12 .done))))))))))))) (by kernel_rfl) (fun K hK => ?_); refine Qq J J J (Qq J J J (Qq J J J (Qq J J J (Qo (i + 10) (T.col.length + 1) J J hget2 (by rw [X9, List.length_set, hpl, hrow]) J sWhs (by omega) (by omega) J ?_)))); rw [kq]; refine Qq J J J (Q5 J J J J (QV J J J fT3 J (ldWh J J J hget2 J (by rw [List.length_set]; omega) lWh J ?_))); rw [ecur2]; refine Zc (n := 2) J J J J (Nat.le_of_ble_eq_true J) lWh J (QQ goover (over_ok v1 T.den hD (by omega) (by omega)) J J J J ?_)
          refine Qo (i + 10) (T.col.length + 1) J J hget2 (by rw [X9, List.length_set, hpl, hrow]) J sWhs (by omega) (by omega) J ?_
          rw [kq]
          refine stWhX J J hget2 J (by rw [List.length_set]; omega) szWh ?_
          rw [set_line5 _ (by omega) (by rw [hslen]; omega), List.set_set, List.set_set]; have hpset2 := hpset (by omega) hqs; rw [hpz hqs] at hpset2; rw [hpset2]; refine Qj (hK _ _ (Qz ?_)); clear hK K; refine Qx (fun K hK => ?_)
          refine Qw (iadd (by omega) (by omega)) J J J J ?_
          refine Qq J J J (Qj (hK _ _ (Q4 ?_))); clear hK K; refine Qb (q + 1) (by omega) (by omega) (by exact Qu J ⟨rfl, rfl, rfl, rfl, rfl, rfl, rfl, rfl, rfl, rfl, rfl, rfl, by simp only [Int.natCast_add]; rfl, trivial⟩)
        · have hsk := hpskip ((hb2 hb).imp id (fun h => by rw [h, hsz])); refine QU (Qz (Qx fun K hK => ?_))
          refine Qw (iadd (by omega) (by omega)) J J J J ?_
          refine Qq J J J (Qj (hK _ _ (Q4 ?_))); clear hK K; refine Qb (q + 1) (by omega) (by omega) (by exact Qu (by rw [hsk]) ⟨rfl, rfl, rfl, rfl, rfl, rfl, rfl, rfl, rfl, rfl, rfl, rfl, by simp only [Int.natCast_add]; rfl, trivial⟩)
      · have hq' : q = (T.rows.getD i []).length := by omega
        subst hPP; rw [hq'] at hpl ⊢; have hdone := hpdone (by omega); rw [show (T.rows.getD i []).getD s 0 = f from hf] at hdone
        have hget : bget (linesB 10 T.hl ((pvRows T r s i).set i (pvPre p T.den s (T.rows.getD r []) (T.rows.getD i []) (T.rows.getD i []).length))) (i + 10) = some (.rowx (T.hl.getD i default) 94 2 (whs (pvPre p T.den s (T.rows.getD r []) (T.rows.getD i []) (T.rows.getD i []).length))) := by
          have := XK (k := 10) (hl := T.hl) (zs := (pvRows T r s i).set i (pvPre p T.den s (T.rows.getD r []) (T.rows.getD i []) (T.rows.getD i []).length)) (i := i) (by omega) (by rw [hslen]; omega)
          rwa [elineI] at this
        clear hpat hpskip hpset hpz hpz0 hpdone; generalize pvPre p T.den s (T.rows.getD r []) (T.rows.getD i []) (T.rows.getD i []).length = cur at *; refine Qr (Qz (Qx fun K hK => ?_)); refine Qq J J J (Qq J J J (Qt (n := 2) J J J J J lWh J (QQ gominus (minus_ok f) J J J J (Qo (i + 10) (T.col.length + 1) J J hget (by rw [X9, hpl, hrow]) J sWhs (by omega) (by omega) J ?_)))); rw [ks]
        refine stWhX J J hget J (by omega) szWh ?_
        rw [set_line5 _ (by omega) (by rw [hslen]; omega), List.set_set, hdone, edone]; refine Qj (hK _ _ (Qz ?_)); clear hK K; refine Qx (fun K hK => ?_)
        refine Qw (iadd (by omega) (by omega)) J J J J ?_
        refine Qq J J J (Qj (hK _ _ (Q4 ?_))); clear hK K; refine Qb (i + 1) (by omega) (by omega) (by exact Yx 5 (Qu del5 ⟨rfl, rfl, rfl, rfl, rfl, rfl, rfl, by simp only [Int.natCast_add]; rfl, trivial⟩))
  · have hi' : i = T.rows.length := by omega
    subst hi'; have erow := pvRows_at T r s T.rows.length r hr2 (.inr J)
    have hget : bget (linesB 10 T.hl (pvRows T r s T.rows.length)) (r + 10) = some (.rowx (T.hl.getD r default) 94 2 (whs (T.rows.getD r []))) := by
      have := XK (k := 10) (hl := T.hl) (zs := pvRows T r s T.rows.length) (i := r) (by omega) (by omega)
      rwa [erow] at this
    refine Qr (Qz (Qy ?_)); refine Xv mixed 13 (.p 0 (.p 1 (.p 2 (.p 4 (.p 7 (.p 8 (.p 9 (.p 10 (.f 3 (.p 5 (.f 6 (.f 11 (.p 12 (.a 13 .done)))))))))))))) (by kernel_rfl) (fun K hK => ?_); refine Qq J J J (Q5 J J J J (QV J J J fT0 J (Qq J J J (Qq J J J (Qq J J J (Q5 J J J J (QV J J J fT3 J (QJ J J J J J lMat J (Qo 1 T.rows.length J J J (by simp [hhl]) J sMat (by omega) (by omega) J ?_))))))))); rw [kr]
    refine QJ J J J J (Yk (by omega)) lWhs J ?_
    refine Zc (n := 2) J J J J (Nat.le_of_ble_eq_true J) lWh J (Qo (r + 10) (T.col.length + 1) J J hget (by rw [X9, hrowr]) J sWhs (by omega) (by omega) J ?_); rw [ks]
    refine stWhX (c := T.den) J J hget J (by omega) szWh ?_
    rw [set_line4 _ (by omega) (by omega)]; have pos := pvt_pos (T := T) (r := r) (s := s) hp; have neg := pvt_neg (T := T) (r := r) (s := s) hp
    have hRl : ((pvRows T r s T.rows.length).set r ((T.rows.getD r []).set s T.den)).length = T.rows.length := by rw [List.length_set, hrl]
    have hRrow : ∀ i, i < T.rows.length → (((pvRows T r s T.rows.length).set r ((T.rows.getD r []).set s T.den)).getD i []).length = T.col.length + 1 := fun i hi => by
      rw [Z2 (by omega)]; split
      · rw [List.length_set, hrowr]
      · unfold pvRows; rw [Zb _ _ _ hi]; split
        · rw [pvRow_len]; exact hF.row i hi
        · exact hF.row i hi
    generalize (pvRows T r s T.rows.length).set r ((T.rows.getD r []).set s T.den) = RR at *; refine Qj (hK _ _ (Qz (Qy ?_))); clear hK K; refine Xv mixed 25 (.p 0 (.p 1 (.p 2 (.p 4 (.p 5 (.p 6 (.p 7 (.p 9 (.p 10 (.p 11 (.p 12 (.p 14 (.p 17 (.p 18 (.p 19 (.p 21 (.f 3 (.f 8 (.f 13 (.p 15 (.f 16 (.f 20 (.p 22 (.f 23 (.p 24 (.a 25 (.p 26 (.a 27 .done)))))))))))))))))))))))))))) (by kernel_rfl) (fun K hK => ?_); refine Qq J J J (Q5 J J J J (QV J J J fT1 J (Qq J J J (Qq J J J (Q5 J J J J (QV J J J fT2 J (Qq J J J (Qq J J J (Q5 J J J J (QV J J J fT2 J (Qq J J J (Qq J J J (Q5 J J J J (QV J J J fT1 J (Qq J J J (QJ J J J J J lInts J (QJ J J J J J lInts J (QJ J J J J J lInts J (Qo 3 T.col.length J J J (by simp) J sInts (by omega) (by omega) J ?_))))))))))))))))))); rw [ks1]
    refine QJ J J J J (Xi (by omega)) lInt J ?_
    refine QJ J J J J J lInts J (Qo 2 T.bas.length J J J (by simp) J sInts (by omega) (by omega) J ?_); rw [kr]
    refine QJ J J J J (Xi (by omega)) lInt J ?_
    refine Qo 2 T.bas.length J J J (by simp) J sInts (by omega) (by omega) J ?_
    rw [kr]
    refine Qn J J J J J zInt (by simp [Ent.cs]; omega) ?_
    simp only [Ent.setc, ZY]
    refine Qo 3 T.col.length J J J (by simp) J sInts (by omega) (by omega) J ?_
    rw [ks1]
    refine Qn J J J J J zInt (by simp [Ent.cs]; omega) ?_
    simp only [Ent.setc, ZY]; have hcl : (T.col.set s (T.bas.getD r 0)).length = T.col.length := List.length_set ..; generalize T.bas.set r (T.col.getD s 0) = bas' at *; generalize T.col.set s (T.bas.getD r 0) = col' at *; refine Qj (hK _ _ (Qz (Qy ?_))); clear hK K; refine Qx (fun K hK => ?_); refine Qq J J J (Qt (n := 2) J J J J J lWh J (Q5 J J J J (QV J J J fT3 J (Ops.stNA (ds := whCs p) J J J J J (by exact szWh) (Nat.le_of_ble_eq_true J) ?_)))); refine Qj (hK _ _ (Qz (Qy (Qy ?_)))); clear hK K; refine Qx (fun K hK => ?_); refine QV J J J fW0 J (QJ J J J J J lBool J (Xj J J J (Qj (hK _ _ (Qz ?_))))); clear hK K; refine Za J (fun hb => ?_) (fun hb => ?_)
    · have hp0 : ¬ p < 0 := by simpa using hb
      refine Q2 (QW ?_); refine Xb 4 (Y3 () [] rfl QX J (fun j => ?_) trivial); rw [pos hp0]; exact congrArg (bget · j) (del4 (T := T) (rows := RR) (bas := bas') (col := col') (den := p)).symm
    · have hp0 : p < 0 := by simpa using hb
      refine QU (Qz (Qy (Qx fun K hK => ?_))); refine Qq J J J (Qt (n := 2) J J J J J lWh J (QQ gominus (minus_ok p) J J J J (Q5 J J J J (QV J J J fT3 J (Ops.stNA (ds := whCs (-p)) J J J J J (by exact szWh) (Nat.le_of_ble_eq_true J) ?_))))); refine Qj (hK _ _ (Qz (Qy ?_))); clear hK K; refine Qx (fun K hK => ?_); refine Qq J J J (Q5 J J J J (QV J J J fT0 J (QJ J J J J J lMat J (ZK 1 T.rows.length J J J (by decide) (by simp [hhl]) sMat.und J ?_)))); refine Qq J J J (Qj (hK _ _ (Qz (Q0 ?_)))); clear hK K
      refine Xq (α := Nat) (fun i => i ≤ T.rows.length)
        (fun i => [(190, .ct (.ex T.hR)), (191, .ct (intC T.rows.length)), (192, .ct (intC i))])
        (fun i => (4, .box 94 (whCs p)) :: tb T (negR RR i) bas' col' (-p)) (fun i => T.rows.length - i) 0 (Nat.zero_le _) (by exact Qu (by rw [negR_zero]; rfl) ⟨rfl, rfl, rfl, trivial⟩) ?_
      intro i hi
      (try dsimp only at hi ⊢)
      have hnl := negR_len RR i; refine Qy (Qx fun K hK => ?_); refine Qw ilss J J J J (Qj (hK _ _ (Qz (Qy ?_)))); clear hK K; refine QK J (fun h => ?_) (fun h => ?_)
      · have hi2 : i < T.rows.length := by omega
        have hrow := hRrow i hi2
        have ki : (i : Int).toNat * 1 = i := by omega
        have eline := negR_at RR i (by omega); have eset := negR_set RR i (by omega)
        have elineI : ∀ y, ((negR RR i).set i y).getD i [] = y := fun y => by rw [Z2 (by omega), if_pos J]
        have hslen : ∀ y, ((negR RR i).set i y).length = T.rows.length := fun y => by rw [List.length_set, hnl, hRl]
        have hst0 : (negR RR i).set i (RR.getD i []) = negR RR i := by
          rw [← eline]
          apply List.ext_getElem (by simp)
          intro j h1 h2; rw [List.getElem_set]; split
          · rename_i e; subst e; simp [List.getD_eq_getElem?_getD, h2]
          · rfl
        generalize RR.getD i [] = line at *; refine QU (Qz (Qy (Q0 (Qy (Qx fun K hK => ?_)))))
        refine Qo 1 T.rows.length J J J (by simp [hhl]) J sMat (by omega) (by omega) J ?_
        rw [ki]
        refine QJ J J J J (Yk (by omega)) lWhs J ?_
        refine Qv J J J (Qj (hK _ _ (Qz (Qy ?_)))); clear hK K; refine Qx (fun K hK => ?_); refine Qq J J J (ZK (i + 10) (T.col.length + 1) J J (XK (by omega) (by omega)) (by decide) (by rw [X9, eline, hrow]) sWhs.und J ?_); refine Qq J J J (Qj (hK _ _ (Qz (Q0 ?_)))); clear hK K
        refine Xq (α := Nat) (fun q => q ≤ T.col.length + 1)
          (fun q => [(190, .ct (.ex T.hR)), (191, .ct (intC T.rows.length)), (192, .ct (intC i)), (13, .ct (.ex (T.hl.getD i default))), (197, .ct (intC ((T.col.length + 1 : Nat) : Int))), (198, .ct (intC q))])
          (fun q => (4, .box 94 (whCs p)) :: tb T ((negR RR i).set i (negP line q)) bas' col' (-p)) (fun q => T.col.length + 1 - q) 0 (Nat.zero_le _) (by exact Qu (by rw [negP_zero, hst0]) ⟨rfl, rfl, rfl, rfl, rfl, rfl, trivial⟩) ?_
        intro q hq
        (try dsimp only at hq ⊢)
        have hpl := negP_len line q; refine Qy (Qx fun K hK => ?_); refine Qw ilss J J J J (Qj (hK _ _ (Qz (Qy ?_)))); clear hK K; refine QK J (fun h2 => ?_) (fun h2 => ?_)
        · have kq : (q : Int).toNat * 2 = q * 2 := by omega
          have ecur := negP_at line q (by omega); have pset := negP_set line q (by omega)
          have hget : bget (linesB 10 T.hl ((negR RR i).set i (negP line q))) (i + 10) = some (.rowx (T.hl.getD i default) 94 2 (whs (negP line q))) := by
            have := XK (k := 10) (hl := T.hl) (zs := (negR RR i).set i (negP line q)) (i := i) (by omega) (by rw [hslen]; omega)
            rwa [elineI] at this
          generalize negP line q = cur at *; refine QU (Qz (Qy (Q0 (Qy (Qx fun K hK => ?_))))); refine Qq J J J (Qv J J J (Qj (hK _ _ (Qz ?_)))); clear hK K; refine Qx (fun K hK => ?_); refine Qq J J J (Qq J J J (Qq J J J (Qq J J J (Qo (i + 10) (T.col.length + 1) J J hget (by rw [X9, hpl, hrow]) J sWhs (by omega) (by omega) J ?_)))); rw [kq]
          refine ldWh J J J hget J (by omega) lWh J ?_
          rw [ecur]; refine QQ gominus (minus_ok _) J J J J (Qo (i + 10) (T.col.length + 1) J J hget (by rw [X9, hpl, hrow]) J sWhs (by omega) (by omega) J ?_); rw [kq]
          refine stWhX J J hget J (by omega) szWh ?_
          rw [set_line4 _ (by omega) (by rw [hslen]; omega), List.set_set, pset]; refine Qj (hK _ _ (Qz ?_)); clear hK K; refine Qx (fun K hK => ?_)
          refine Qw (iadd (by omega) (by omega)) J J J J ?_
          refine Qq J J J (Qj (hK _ _ (Q4 ?_))); clear hK K; refine Qb (q + 1) (by omega) (by omega) (by exact Qu J ⟨rfl, rfl, rfl, rfl, rfl, by simp only [Int.natCast_add]; rfl, trivial⟩)
        · have hq' : q = line.length := by omega
          rw [hq', negP_done, eset]; refine Qr (Qz (Qx fun K hK => ?_))
          refine Qw (iadd (by omega) (by omega)) J J J J ?_
          refine Qq J J J (Qj (hK _ _ (Q4 ?_))); clear hK K; refine Qb (i + 1) (by omega) (by omega) (by exact Qu J ⟨rfl, rfl, by simp only [Int.natCast_add]; rfl, trivial⟩)
      · have hi' : i = RR.length := by omega
        rw [hi', negR_done]; refine Qr (Zy (Zy (Yl ?_))); refine Xb 4 (Fin.endM () [] rfl QX J (fun j => ?_) trivial); rw [neg hp0]; exact congrArg (bget · j) (del4 (T := T) (rows := RR.map negL) (bas := bas') (col := col') (den := -p)).symm
end Go.Proofs.YtdhmbgogmoaofaaGreat
namespace Go.Proofs.YtdhmbgogmoaofaaGreat
open Go.Own Go.Limbs
def beside (E : BL) : Bool := E.all fun p => Nat.ble 4 p.1 && Nat.blt p.1 10
theorem beside_get {E : BL} (h : beside E = true) {j : Nat} (hj : (bget E j).isSome = true) : 4 ≤ j ∧ j < 10 := by
  induction E with
  | nil => cases hj
  | cons p E ih =>
    obtain ⟨i, e⟩ := p; simp only [beside, List.all_cons, Bool.and_eq_true] at h; by_cases hij : i = j
    · subst hij; exact ⟨Nat.le_of_ble_eq_true h.1.1, Nat.le_of_ble_eq_true h.1.2⟩
    · rw [Q3 _ _ hij] at hj; exact ih h.2 hj
theorem tab_none {T : Tv} {j : Nat} (h1 : 4 ≤ j) (h2 : j < 10) : bget (tabB T) j = none := by
  unfold tabB; rw [Q3 _ _ (by omega), Q3 _ _ (by omega), Q3 _ _ (by omega), Q3 _ _ (by omega)]; exact Zl 10 _ _ j h2
theorem tab_swap {E : BL} (h : beside E = true) (T : Tv) (j : Nat) : bget (E ++ tabB T) j = bget (tabB T ++ E) j := by
  rw [Zj, Zj]
  cases h1 : bget E j with
  | none => cases bget (tabB T) j <;> rfl
  | some e =>
    have := beside_get h (j := j) (by rw [h1]; rfl); rw [tab_none this.1 this.2]; rfl
def kpT (j : Nat) : Bool := Nat.beq j 0 || (Nat.ble 4 j && Nat.blt j 10)
section
variable {X : Ctx} {L : AL} {B : BL} {ops : Array Oper} {K : Act → World → Prop} {r : Pl} {k : Kd}
  {x y z : Operand} {d : Nat} {t t2 t' : TypeId} {pos : String} {af : Array Edge} {g : Option (Nat × Bool)}
theorem Ops.reB {l : Pl} {B' : BL} (hB : ∀ j, bget B' j = bget B j) (h : Ops X ops l L B' K) : Ops X ops l L B K := fun a ρ w hI => h a ρ w (hI.bext hB)
theorem Xh {f : FuncId} {args : List Operand} {tys : Array TypeId} {As : List Sl} {T : Tv} {α : Type} {J : α → Prop} {R : α → CT} {T' : α → Tv} (E : BL) (hgo : InGo X.P f) (hok : OkM X.P f As (tabB T) [0] J (fun q => .ct (R q)) (fun q => tabB (T' q))) (hg : gd ops L g = some true) (hargs : evS L args = some As) (hn : Nat.blt d X.n = true)
    (hbor : ∀ gb, X.bor gb → X.S0 gb) (hB : B = E ++ tabB T) (hE : beside E = true) (hfix : ∀ p ∈ X.fix, (bget E p.1).isSome = true ∨ p.1 ∈ [0])
    (h : ∀ q, J q → Ops X ops r ((d, .ct (R q)) :: keepL kpT L) (E ++ tabB (T' q)) K) : Ops X ops (.cons ⟨some d, .call { callee := .value (.func f), args := args.toArray, argTypes := tys }, t, pos, af, g⟩ .any r) L B K := by
  subst hB; refine Ops.callM E kpT hgo hok hg hargs hn hbor (tab_swap hE T) (fun j hj => ?_) (fun j hj => ?_) hfix (fun q j h => ?_) (fun q hq => ?_)
  · have := beside_get hE hj; exact ⟨tab_none this.1 this.2, fun q => tab_none this.1 this.2⟩
  · unfold kpT at hj; rw [Bool.or_eq_true, Bool.and_eq_true] at hj; rcases hj with hj | ⟨h1, h2⟩
    · exact .inl (by rw [Nat.eq_of_beq_eq_true hj]; simp)
    · exact .inr fun q => tab_none (Nat.le_of_ble_eq_true h1) (Nat.le_of_ble_eq_true h2)
  · rcases h with h | ⟨_, h⟩ <;> cases h
  · exact Ops.reB (fun j => tab_swap hE (T' q) j) (h q hq)
end
structure Gd (T : Tv) : Prop where
  fit : Fit T
  short : Shrt T
  den : 0 < T.den
  dens : (limbs T.den.natAbs).length ≤ 60
def RunOk (gi : Nat) (T' : Tv) (s : Int) : Nat → Tv → Prop
  | 0, T => Gd T ∧ T = T' ∧ ((entS (T.rows.getD gi []) T.col T.col.length < 0 ∧ s = -1) ∨ (0 ≤ entS (T.rows.getD gi []) T.col T.col.length ∧ levS T (entS (T.rows.getD gi []) T.col T.col.length).toNat T.bas.length < 0 ∧ s = entS (T.rows.getD gi []) T.col T.col.length))
  | k + 1, T => Gd T ∧ 0 ≤ entS (T.rows.getD gi []) T.col T.col.length ∧ 0 ≤ levS T (entS (T.rows.getD gi []) T.col T.col.length).toNat T.bas.length ∧
      RunOk gi T' s k (pvt T (levS T (entS (T.rows.getD gi []) T.col T.col.length).toNat T.bas.length).toNat (entS (T.rows.getD gi []) T.col T.col.length).toNat)
theorem RunOk.gd {gi : Nat} {T' : Tv} {s : Int} {k : Nat} {T : Tv} (h : RunOk gi T' s k T) : Gd T := by
  cases k with
  | zero => exact h.1
  | succ k => exact h.1
theorem Zq (T : Tv) (r s : Nat) : (pvt T r s).rows.length = T.rows.length := by
  unfold pvt; dsimp only; split
  · rw [List.length_map, List.length_set, Yn]
  · rw [List.length_set, Yn]
attribute [local irreducible] St Ops Go.Own.Fin Ok OkM
theorem gomaximize : InGo Tryz.prog 71 := InGo.of Tryz.func71 (by kernel_rfl) (by kernel_rfl)
set_option maxHeartbeats 4000000 in
theorem maximize_ok (T T' : Tv) (gi : Nat) (s : Int) (n : Nat) (hrun : RunOk gi T' s n T) (hgi : gi < T.rows.length) : OkM Tryz.prog 71 [.own 0, .ct (intC gi)] (tabB T) [0] (fun _ : Unit => True) (fun _ => .ct (intC s)) (fun _ => tabB T') := by
  refine OkM.enter Tryz.func71 J _ Tryz.ntmps71 J (tab_fx T) ?_
  intro S w ρ0 hbor
  have hfix : ∀ p ∈ (lentM Tryz.prog 22 S w (tabB T) [0] ρ0).fix, (bget [] p.1).isSome = true ∨ p.1 ∈ [0] := fun p hp => by
    obtain ⟨i, hi, rfl⟩ := List.mem_map.1 hp; exact .inr hi
  refine Qy (Qx fun K hK => ?_); refine Qv J J J (Qj (hK _ _ (Qz (Q0 ?_)))); clear hK K
  refine Xq (α := Nat × Tv) (fun x => RunOk gi T' s x.1 x.2 ∧ gi < x.2.rows.length)
    (fun _ => [(0, .own 0), (1, .ct (intC gi))]) (fun x => tabB x.2) (fun x => x.1) (n, T) ⟨hrun, hgi⟩ (by exact Qu J ⟨rfl, rfl, trivial⟩) ?_
  rintro ⟨k, T1⟩ ⟨hr, hg1⟩
  dsimp only at hr hg1 ⊢; have G := hr.gd; have b1 := entS_bd (T1.rows.getD gi []) T1.col T1.col.length; refine Q0 (Qy (Qx fun K hK => ?_)); refine Qq J J J (Qq J J J (Xh [] goentering (entering_ok T1 G.fit gi hg1) J J J hbor J J hfix (fun _ _ => ?_))); have hr' := hr; generalize he : entS (T1.rows.getD gi []) T1.col T1.col.length = e at *; refine Qv J J J (Qj (hK _ _ (Qz (Qy (Qy ?_))))); clear hK K; refine Qx (fun K hK => ?_); refine Qq J J J (Qw ilss J J J J (Qj (hK _ _ (Qz ?_)))); clear hK K; refine QK J (fun h => ?_) (fun h => ?_)
  · cases k with
    | zero =>
      obtain ⟨-, rfl, h3⟩ := hr; rw [he] at h3
      have hs : s = -1 := by omega
      subst hs; refine Qy (Qx fun K hK => ?_); refine Qv J J J (Qj (hK _ _ (Qz (Q2 (QW (Qe (QW (Qe ?_)))))))); clear hK K; refine Y3 () [_] rfl (QZ J QX) J (fun _ => rfl) trivial
    | succ k => exfalso; have := hr.2.1; omega
  · obtain ⟨m, rfl⟩ : ∃ m : Nat, e = m := ⟨e.toNat, by omega⟩; have b2 := levS_bd T1 m T1.bas.length; refine QU (Qz (Qy (Qx fun K hK => ?_))); refine Qq J J J (Qq J J J (Xh [] goleaving (leaving_ok T1 G.fit G.short m (by omega)) J J J hbor J J hfix (fun _ _ => ?_))); generalize hl : levS T1 m T1.bas.length = l at *; refine Qv J J J (Qj (hK _ _ (Qz (Qy (Qy ?_))))); clear hK K; refine Qx (fun K hK => ?_); refine Qq J J J (Qw ilss J J J J (Qj (hK _ _ (Qz ?_)))); clear hK K; refine QK J (fun h2 => ?_) (fun h2 => ?_)
    · cases k with
      | zero =>
        obtain ⟨-, rfl, h3⟩ := hr; rw [he, Int.toNat_natCast, hl] at h3
        have hs : s = m := by omega
        subst hs; refine Qy (Qx fun K hK => ?_); refine Qq J J J (Qv J J J (Qj (hK _ _ (Qz (Q2 (QW (Qe (QW (Qe ?_))))))))); clear hK K; refine Y3 () [_] rfl (QZ J QX) J (fun _ => rfl) trivial
      | succ k => exfalso; have := hr.2.2.1; rw [he, Int.toNat_natCast, hl] at this; omega
    · obtain ⟨q, rfl⟩ : ∃ q : Nat, l = q := ⟨l.toNat, by omega⟩
      cases k with
      | zero => exfalso; have h3 := hr.2.2; rw [he, Int.toNat_natCast, hl] at h3; omega
      | succ k =>
        have h3 := hr.2.2.2; rw [he, Int.toNat_natCast, hl, Int.toNat_natCast] at h3; refine QU (Qz (Qx fun K hK => ?_)); refine Qq J J J (Qq J J J (Qq J J J (Xh [] gopivot (pivot_ok T1 G.fit G.short G.den G.dens q m (by omega) (by omega)) J J J hbor J J hfix (fun _ _ => ?_)))); refine Qj (hK _ _ (X6 (Q4 ?_))); clear hK K; refine Qb (k, pvt T1 q m) (by dsimp only; omega) ⟨h3, by rw [Zq]; exact hg1⟩ (by exact Qu J ⟨rfl, rfl, trivial⟩)
end Go.Proofs.YtdhmbgogmoaofaaGreat
namespace Go.Own
open Go.RowKit
def wpAnyL (P : Program) (ops : Array Oper) (K : Act → World → Prop) (late : List Nat) : Nat → Array Bool → Act → World → Prop
  | 0, listed, a, w => Region.ready .any ops listed = [] ∧ K a w
  | fuel + 1, listed, a, w => (Region.ready .any ops listed = [] → K a w) ∧
      ∀ i ∈ Region.ready .any ops listed, wpOp P ops (only K) i (fun a' w' => (late.contains i = false → Below w.heap.size w w') ∧ wpAnyL P ops K late fuel (listed.setIfInBounds i true) a' w') a w
theorem wpAny_of_L {P : Program} {ops : Array Oper} {K : Act → World → Prop} {late : List Nat} : ∀ (fuel : Nat) (listed : Array Bool) (a : Act) (w : World), wpAnyL P ops K late fuel listed a w → wpAny P .any ops (only K) fuel listed a w
  | 0, _, _, _, h => h
  | fuel + 1, _, _, _, h => ⟨h.1, fun i hi => wpOp_mono (fun a' w' h' => wpAny_of_L fuel _ a' w' h'.2) (h.2 i hi)⟩
def needs (ops : Array Oper) (i : Nat) : Nat → Nat → Bool
  | 0, _ => false
  | n + 1, j => match ops[j]? with
    | some oj => oj.after.any fun e => Region.binds .any e && (e.on == i || needs ops i n e.on)
    | none => false
def waitsL (ops : Array Oper) (late : List Nat) (listed : Array Bool) (i : Nat) : Bool := late.all fun j => listed.getD j true || needs ops i ops.size j
theorem needs_spec {ops : Array Oper} {i : Nat} {listed : Array Bool} (hs : Shut ops listed) : ∀ (n j : Nat), needs ops i n j = true → (∀ oj, ops[j]? = some oj → ∀ e ∈ oj.after, Region.binds .any e = true → listed.getD e.on false = true) → listed.getD i false = true
  | 0, _, h, _ => by cases h
  | n + 1, j, h, hj => by
    simp only [needs] at h
    cases ho : ops[j]? with
    | none => rw [ho] at h; cases h
    | some oj =>
      rw [ho] at h
      obtain ⟨e, he, hb⟩ := Array.any_eq_true'.1 h
      simp only [Bool.and_eq_true, Bool.or_eq_true, beq_iff_eq] at hb
      have hl := hj oj ho e he hb.1
      rcases hb.2 with h2 | h2
      · rw [← h2]; exact hl
      · exact needs_spec hs n e.on h2 (fun ok hk e' he' hb' => hs e.on ok hk hl e' he' hb')
theorem waitsL_spec {ops : Array Oper} {late : List Nat} {listed0 listed : Array Bool} {i : Nat} (h : waitsL ops late listed0 i = true) (hm : ∀ j, listed0.getD j true = true → listed.getD j true = true) (hs : Shut ops listed) (hi : listed.getD i false = false) {j : Nat} (hj : j ∈ Region.ready .any ops listed) : late.contains j = false := by
  cases hl : late.contains j with
  | false => rfl
  | true =>
    exfalso; obtain ⟨hun, oj, hoj, hall⟩ := mem_ready.1 hj; simp only [waitsL, List.all_eq_true] at h; have h1 := h j (by simpa using hl); rw [Bool.or_eq_true] at h1; rcases h1 with h1 | h1
    · rw [hm j h1] at hun; cases hun
    · have := needs_spec hs _ j h1 (fun ok hk e he hb => by rw [hoj] at hk; injection hk with hk; subst hk; exact hall e he hb); rw [this] at hi; cases hi
theorem getD_mono {listed : Array Bool} {i j : Nat} (h : listed.getD j true = true) : (listed.setIfInBounds i true).getD j true = true := by
  by_cases hij : i = j
  · subst hij; rcases Nat.lt_or_ge i listed.size with h' | h'
    · simp [h']
    · simp [h']
  · rw [getD_set_ne true hij]; exact h
theorem wpAnyL_first {P : Program} {ops : Array Oper} {K : Act → World → Prop} {late : List Nat} {i : Nat} {oi : Oper} {v : Value} {listed0 : Array Bool} (hi : ops[i]? = some oi)
    (hsel : ∀ (j : Nat) (o : Oper) cs b, ops[j]? = some o → o.op ≠ .select cs b) (htail : waitsL ops late listed0 i = true) :
    ∀ (fuel : Nat) (listed : Array Bool) (a : Act) (w : World), Shut ops listed → (∀ j, listed0.getD j true = true → listed.getD j true = true) →
      (∀ j oj, ops[j]? = some oj → j ≠ i → listed.getD j true = false → (∀ e ∈ oj.after, Region.binds .any e = true → e.on ≠ i) → oi.apart ops oj = true) →
      i ∈ Region.ready .any ops listed → YieldsIf P ops (fun x => Below w.heap.size w x) oi v a →
      wpAnyL P ops K late fuel (listed.setIfInBounds i true) (a.put oi.dst v) w → wpAnyL P ops K late (fuel + 1) listed a w := by
  intro fuel
  induction fuel with
  | zero =>
    intro listed a w _ _ _ hr hy H; refine ⟨fun h => (by rw [h] at hr; cases hr), fun j hj => ?_⟩; by_cases hji : j = i
    · subst hji; exact hy.wpOp hi (Below.refl _ _) ⟨fun _ => Below.refl _ _, H⟩
    · have := ready_mono hj hji; rw [H.1] at this; cases this
  | succ fuel ih =>
    intro listed a w hsh hm hfree hr hy H; refine ⟨fun h => (by rw [h] at hr; cases hr), fun j hj => ?_⟩; by_cases hji : j = i
    · subst hji; exact hy.wpOp hi (Below.refl _ _) ⟨fun _ => Below.refl _ _, H⟩
    · have h1 := H.2 j (ready_mono hj hji); obtain ⟨hjun, oj, hoj, hall⟩ := mem_ready.1 hj
      have hun : listed.getD i false = false := by
        have h0 := (mem_ready.1 hr).1; rcases Nat.lt_or_ge i listed.size with h' | h'
        · simpa [h'] using h0
        · simp [h'] at h0
      have hnot : ∀ e ∈ oj.after, Region.binds .any e = true → e.on ≠ i := fun e he hb heq => by
        have h1 := hall e he hb; rw [heq, hun] at h1; cases h1
      have hjN : late.contains j = false := waitsL_spec htail hm hsh hun hj; have h2 := wpOp_putIf hoj (hfree j oj hoj hji hjun hnot) (fun cs b => hsel i oi cs b hi) (fun cs b => hsel j oj cs b hoj) (fun _ _ _ h => h.elim) hy h1
      have hfree' : ∀ k ok, ops[k]? = some ok → k ≠ i → (listed.setIfInBounds j true).getD k true = false →
          (∀ e ∈ ok.after, Region.binds .any e = true → e.on ≠ i) → oi.apart ops ok = true := fun k ok hk hki hun hno => by
        refine hfree k ok hk hki ?_ hno
        by_cases hjk : j = k
        · subst hjk; exact hjun
        · rw [getD_set_ne true hjk] at hun; exact hun
      refine wpOp_mono (fun a' w' h3 => ⟨h3.2.1, ih (listed.setIfInBounds j true) a' w' (hsh.step hj) (fun q hq => getD_mono (hm q hq)) hfree' (ready_mono hr (Ne.symm hji)) (yields_later h3.1 (h3.2.1 hjN)) ?_⟩) h2; rw [Array.setIfInBounds_comm _ _ hji]; exact h3.2.2
theorem wpAnyL_firstP {P : Program} {ops : Array Oper} {K : Act → World → Prop} {late : List Nat} {i : Nat} {oi : Oper} {v : Value} (hi : ops[i]? = some oi)
    (hsel : ∀ (j : Nat) (o : Oper) cs b, ops[j]? = some o → o.op ≠ .select cs b) :
    ∀ (fuel : Nat) (listed : Array Bool) (a : Act) (w : World),
      (∀ j oj, ops[j]? = some oj → j ≠ i → listed.getD j true = false → (∀ e ∈ oj.after, Region.binds .any e = true → e.on ≠ i) → oi.apart ops oj = true) →
      i ∈ Region.ready .any ops listed → Yields P ops oi v a →
      wpAnyL P ops K late fuel (listed.setIfInBounds i true) (a.put oi.dst v) w → wpAnyL P ops K late (fuel + 1) listed a w := by
  intro fuel
  induction fuel with
  | zero =>
    intro listed a w _ hr hy H; refine ⟨fun h => (by rw [h] at hr; cases hr), fun j hj => ?_⟩; by_cases hji : j = i
    · subst hji; exact hy.wpOp hi ⟨fun _ => Below.refl _ _, H⟩
    · have := ready_mono hj hji; rw [H.1] at this; cases this
  | succ fuel ih =>
    intro listed a w hfree hr hy H; refine ⟨fun h => (by rw [h] at hr; cases hr), fun j hj => ?_⟩; by_cases hji : j = i
    · subst hji; exact hy.wpOp hi ⟨fun _ => Below.refl _ _, H⟩
    · have h1 := H.2 j (ready_mono hj hji); obtain ⟨hjun, oj, hoj, hall⟩ := mem_ready.1 hj
      have hnot : ∀ e ∈ oj.after, Region.binds .any e = true → e.on ≠ i := fun e he hb heq => by
        have h1 := hall e he hb; have h0 := (mem_ready.1 hr).1; rw [heq] at h1; rcases Nat.lt_or_ge i listed.size with h' | h'
        · simp [h'] at h0 h1; rw [h0] at h1; cases h1
        · simp [Array.getElem?_eq_none h'] at h1
      have h2 := wpOp_put hoj (hfree j oj hoj hji hjun hnot) (fun cs b => hsel i oi cs b hi) (fun cs b => hsel j oj cs b hoj) (fun _ _ _ h => h.elim) hy h1
      have hfree' : ∀ k ok, ops[k]? = some ok → k ≠ i → (listed.setIfInBounds j true).getD k true = false →
          (∀ e ∈ ok.after, Region.binds .any e = true → e.on ≠ i) → oi.apart ops ok = true := fun k ok hk hki hun hno => by
        refine hfree k ok hk hki ?_ hno
        by_cases hjk : j = k
        · subst hjk; exact hjun
        · rw [getD_set_ne true hjk] at hun; exact hun
      refine wpOp_mono (fun a' w' h3 => ⟨h3.2.1, ih (listed.setIfInBounds j true) a' w' hfree' (ready_mono hr (Ne.symm hji)) h3.1 ?_⟩) h2; rw [Array.setIfInBounds_comm _ _ hji]; exact h3.2.2
def chkL (ops : Array Oper) (late : List Nat) : Od → Nat → Array Bool → Bool
  | .done, _, listed => (Region.ready .any ops listed).isEmpty
  | _, 0, _ => false
  | .p i r, n + 1, listed => (Region.ready .any ops listed).contains i && Region.free .any ops listed i && chkL ops late r n (listed.setIfInBounds i true)
  | .f i r, n + 1, listed => (Region.ready .any ops listed).contains i && Region.free .any ops listed i && waitsL ops late listed i && chkL ops late r n (listed.setIfInBounds i true)
  | .m i r, n + 1, listed => Region.ready .any ops listed == [i] && !late.contains i && chkL ops late r n (listed.setIfInBounds i true)
  | .a i r, n + 1, listed => Region.ready .any ops listed == [i] && late.contains i && chkL ops late r n (listed.setIfInBounds i true)
  | .fork i r j s, n + 1, listed => Region.ready .any ops listed == [i, j] && !late.contains i && !late.contains j && chkL ops late r n (listed.setIfInBounds i true) && chkL ops late s n (listed.setIfInBounds j true)
theorem anyL_of_X {P : Program} {l : List Oper} {K : Act → World → Prop} {late : List Nat} (hs : Region.noSelect l.toArray = true) :
    ∀ (ord : Od) (fuel : Nat) (listed : Array Bool) (a : Act) (w : World), Shut l.toArray listed → chkL l.toArray late ord fuel listed = true →
      wpX P l.toArray K (pick l ord) a w → wpAnyL P l.toArray K late fuel listed a w := by
  have hidx : ∀ {listed : Array Bool} {i : Nat}, i ∈ Region.ready .any l.toArray listed → l.toArray[i]? = some (nth l i) := fun h => nth_eq (by simpa using ready_lt h)
  intro ord
  induction ord with
  | done =>
    intro fuel listed a w _ hc h
    have hr : Region.ready .any l.toArray listed = [] := by
      cases fuel <;> simpa [chkL] using hc
    cases fuel with
    | zero => exact ⟨hr, h⟩
    | succ f => exact ⟨fun _ => h, by rw [hr]; simp⟩
  | p i r ih =>
    intro fuel listed a w hsh hc h
    cases fuel with
    | zero => simp [chkL] at hc
    | succ f =>
      simp only [chkL, Bool.and_eq_true] at hc; obtain ⟨⟨hr, hfr⟩, hc2⟩ := hc
      have hr' : i ∈ Region.ready .any l.toArray listed := by simpa using hr
      obtain ⟨v, hy, h⟩ := h; exact wpAnyL_firstP (hidx hr') (Region.noSelect_spec hs) f listed a w (Region.free_spec (hidx hr') hfr) hr' hy (ih f _ _ _ (hsh.step hr') hc2 h)
  | f i r ih =>
    intro fuel listed a w hsh hc h
    cases fuel with
    | zero => simp [chkL] at hc
    | succ f =>
      simp only [chkL, Bool.and_eq_true] at hc; obtain ⟨⟨⟨hr, hfr⟩, hw⟩, hc2⟩ := hc
      have hr' : i ∈ Region.ready .any l.toArray listed := by simpa using hr
      obtain ⟨v, hy, h⟩ := h; exact wpAnyL_first (hidx hr') (Region.noSelect_spec hs) hw f listed a w hsh (fun _ h => h) (Region.free_spec (hidx hr') hfr) hr' hy (ih f _ _ _ (hsh.step hr') hc2 h)
  | m i r ih =>
    intro fuel listed a w hsh hc h
    cases fuel with
    | zero => simp [chkL] at hc
    | succ f =>
      simp only [chkL, Bool.and_eq_true, beq_iff_eq] at hc; obtain ⟨⟨hr, _⟩, hc2⟩ := hc; refine ⟨(fun h0 => by rw [hr] at h0; cases h0), fun j hj => ?_⟩; have hi := hidx hj; have hj' := hj; rw [hr] at hj
      obtain rfl : j = i := by simpa using hj
      exact Zi hi (Zm h fun a' w' h' => ⟨fun _ => h'.1, ih f _ _ _ (hsh.step hj') hc2 h'.2⟩)
  | a i r ih =>
    intro fuel listed a w hsh hc h
    cases fuel with
    | zero => simp [chkL] at hc
    | succ f =>
      simp only [chkL, Bool.and_eq_true, beq_iff_eq] at hc; obtain ⟨⟨hr, hN⟩, hc2⟩ := hc; refine ⟨(fun h0 => by rw [hr] at h0; cases h0), fun j hj => ?_⟩; have hi := hidx hj; have hj' := hj; rw [hr] at hj
      obtain rfl : j = i := by simpa using hj
      refine Zi hi (Zm h fun a' w' h' => ⟨fun hlt => ?_, ih f _ _ _ (hsh.step hj') hc2 h'⟩); rw [hlt] at hN; cases hN
  | fork i r j s ih1 ih2 =>
    intro fuel listed a w hsh hc h
    cases fuel with
    | zero => simp [chkL] at hc
    | succ f =>
      simp only [chkL, Bool.and_eq_true, beq_iff_eq] at hc; obtain ⟨⟨⟨⟨hr, _⟩, _⟩, hc1⟩, hc2⟩ := hc; refine ⟨(fun h0 => by rw [hr] at h0; cases h0), fun q hq => ?_⟩; have hi := hidx hq; have hq' := hq; rw [hr] at hq; rcases List.mem_cons.1 hq with rfl | hq
      · exact Zi hi (Zm h.1 fun a' w' h' => ⟨fun _ => h'.1, ih1 f _ _ _ (hsh.step hq') hc1 h'.2⟩)
      · obtain rfl : q = j := by simpa using hq
        exact Zi hi (Zm h.2 fun a' w' h' => ⟨fun _ => h'.1, ih2 f _ _ _ (hsh.step hq') hc2 h'.2⟩)
variable {X : Ctx} {L : AL} {B : BL}
theorem St.drawL {id : Nat} {l : List Oper} {Q : Exit → Act → World → Prop} (hm : X.P.follows .mixedOrders = true) (late : List Nat) (ord : Od)
    (hc : (Region.noSelect l.toArray && chkL l.toArray late ord l.length (Array.replicate l.length false)) = true)
    (h : ∀ K, (∀ L' B', Fin X L' B' (fun a w => Q .normal a w) → Fin X L' B' K) → Ops X l.toArray (pick l ord) L B K) : St X L B (.region id l.toArray true) Q := by
  intro a ρ w hI; simp only [Bool.and_eq_true] at hc; obtain ⟨hs, hc⟩ := hc; have h1 := h _ (fun _ _ h => h) a ρ _ (hI.below (Below.drewOnce w)); have h2 := anyL_of_X hs ord l.length _ a _ (Shut.start _ _) hc h1; have h3 := wpAny_of_L _ _ _ _ h2
  refine Go.wp_mono (wp_region_any (Q := only fun a w => Q .normal a w) hm ?_) ?_
  · simpa using h3
  · intro e a w h
    cases e with
    | normal => exact h
    | exit _ => exact h.elim
    | goto _ => exact h.elim
    | ret => exact h.elim
    | panic _ => exact h.elim
    | outgrown => exact h.elim
end Go.Own
namespace Go.Own
section
variable {P : Program} {n : Nat} {S : BSet} {w0 : World} {B0 : BL} {fx : List Nat} {ρ0 : Nat → Value} {α : Type} {J : α → Prop} {R : α → Sl} {B1 : α → BL} {L : AL} {B : BL}
theorem Is.postMS {a : Act} {ρ : Nat → Value} {w : World} {v : Value} (hI : Is (lentM P n S w0 B0 fx ρ0) L B a ρ w) (q : α) (hB : ∀ i e, bget (B1 q) i = some e → bget B i = some e) (hfx1 : ∀ i ∈ fx, isBx (bget (B1 q) i) = true) (hJ : J q) (hv : (R q).p (Sof (lentM P n S w0 B0 fx ρ0) B ρ) ρ w v) : Own.postM S w0 ρ0 B0 fx J R B1 (.returned v) w := by
  have hk : Kp (Sof (lentM P n S w0 B0 fx ρ0) B ρ) (Sn S (B1 q) ρ) w w := ⟨Nat.le_refl _, fun k _ h => ⟨⟨h.1, fun i e hi => h.2 i e (hB i e hi)⟩, rfl⟩⟩; refine ⟨v, q, ρ, rfl, hJ, Sl.mono hk hv, ⟨fun i e hi => Ent.keep hk (fun _ _ _ => rfl) (hI.ent i e (hB i e hi)).1, fun i j e e' hi hj => hI.apart i j e e' (hB i e hi) (hB j e' hj)⟩, fun i hi => ⟨hfx1 i hi, ?_⟩, fun i e hi gb hgb => (hI.ent i e (hB i e hi)).2 gb hgb, hI.frame⟩; exact (hI.fixd (i, ρ0 i) (List.mem_map.2 ⟨i, hi, rfl⟩)).2
theorem Fin.retMSG {fn : Func} {cs : List CT} {rv : List ResultVar} (q : α) (hfn : fn.results = rv.toArray) (hr : AllRes (lentM P n S w0 B0 fx ρ0) L B rv cs) (hR : R q = .ct (retC cs)) (hB : ∀ i e, bget (B1 q) i = some e → bget B i = some e) (hfx1 : ∀ i ∈ fx, isBx (bget (B1 q) i) = true) (hJ : J q) :
    ∀ a ρ w, Is (lentM P n S w0 B0 fx ρ0) L B a ρ w → a.defers = [] ∧ ∃ v, (results fn a.tmps).run P w = .ok v w ∧ Own.postM S w0 ρ0 B0 fx J R B1 (.returned v) w := fun a ρ w hI => by
  obtain ⟨v, h1, h2⟩ := results_run hfn hr hI
  exact ⟨hI.defers, v, h1, hI.postMS q hB hfx1 hJ (by rw [hR]; exact h2)⟩
theorem YK {fn : Func} {cs : List CT} (q : α) (rv : List ResultVar) (hfn : fn.results = rv.toArray) (hr : AllRes (lentM P n S w0 B0 fx ρ0) L B rv cs) (hR : R q = .ct (retC cs)) (hB : ∀ i e, bget (B1 q) i = some e → bget B i = some e) (hfx1 : ∀ i ∈ fx, isBx (bget (B1 q) i) = true) (hJ : J q) :
    Fin (lentM P n S w0 B0 fx ρ0) L B (fun a w => bodyPost P fn (Own.postM S w0 ρ0 B0 fx J R B1) .ret a w) := Fin.retMSG q hfn hr hR hB hfx1 hJ
end
end Go.Own
namespace Go.Proofs.YtdhmbgogmoaofaaGreat
open Go.Own Go.Limbs
theorem tab_sub {E : BL} (hE : beside E = true) {T : Tv} : ∀ i e, bget (tabB T) i = some e → bget (E ++ tabB T) i = some e := fun i e h => by
  rw [tab_swap hE, Zj, h]; rfl
theorem tab_del {T : Tv} {k : Nat} {e5 : Ent} (h1 : 4 ≤ k) (h2 : k < 10) : ∀ i e, bget (tabB T) i = some e → bget (bdel ((k, e5) :: tabB T) k) i = some e := fun i e h => by
  have hik : i ≠ k := fun he => by subst he; rw [tab_none h1 h2] at h; cases h
  rw [Xg _ hik, Q3 _ _ (Ne.symm hik)]; exact h
attribute [local irreducible] St Ops Go.Own.Fin Ok OkM
def shq (a D : Int) : Rat := mkRat a D.natAbs
theorem goshare : InGo Tryz.prog 74 := InGo.of Tryz.func74 (by kernel_rfl) (by kernel_rfl)
set_option maxHeartbeats 4000000 in
theorem share_ok (T : Tv) (a : Int) (ha : (limbs a.natAbs).length ≤ 200) (hD : 0 < T.den) (hDs : (limbs T.den.natAbs).length ≤ 200) : OkM Tryz.prog 74 [.own 0, .ct (whC a)] (tabB T) [0] (fun _ : Unit => True) (fun _ => .ct (ratC (shq a T.den))) (fun _ => tabB T) := by
  have hq : ratC (shq a T.den) = fracC (redF (decide (a < 0)) a.natAbs T.den.natAbs) := by
    rw [redF_q _ _ _ (by omega), sg_natAbs]; rfl
  rw [hq]
  refine OkM.enter Tryz.func74 J _ Tryz.ntmps74 J (tab_fx T) ?_
  intro S w ρ0 hbor; simp only [tabB]; have hr := Reduce_ok ⟨decide (a < 0), a.natAbs, T.den.natAbs⟩ (by show 0 < T.den.natAbs; omega) (by show (limbs a.natAbs).length ≤ 256; omega) (by show (limbs T.den.natAbs).length ≤ 256; omega); refine Qy (Qx fun K hK => ?_)
  refine XZ 4 J J J J J (by exact Zl 10 _ _ 4 (by decide)) J ?_
  refine Qf 5 J J zvFrac J (by exact Zl 10 _ _ 5 (by decide)) J ?_
  refine Qj (hK _ _ (Qz (Qy ?_))); clear hK K; refine Xv mixed 13 (.p 0 (.p 2 (.p 5 (.p 6 (.p 7 (.p 8 (.f 1 (.f 3 (.f 9 (.m 4 (.m 10 (.p 11 (.m 12 (.a 13 .done)))))))))))))) (by kernel_rfl) (fun K hK => ?_); refine QV J J J fW0 J (QV J J J fW1 J (Qq J J J (Q5 J J J J (QV J J J fT3 J (Yt J J fW1 J (QJ J J J J J lBool J (QJ J J J J J lNat J (QJ J J J J J lNat J (QQ goClone (Clone_ok _ (by omega)) J J J J ?_)))))))))
  refine QQ goClone (Clone_ok _ (by omega)) J J J J ?_
  refine Xk J bFrac J (.one J J J J (.one J J J J (.one J J J J .nil))) J (QQ goReduce hr J J J J ?_); generalize redF (decide (a < 0)) a.natAbs T.den.natAbs = rr at *; refine Qa 3 J J J J J szFrac J J (Qj (hK _ _ (Qz (Q2 ?_)))); clear hK K; refine YK () [_] rfl (Qd (n := 3) J J Xy J QX) J (tab_sub (E := [(5, _), (4, _)]) J) (tab_fx T) trivial
def frO : Option Rat → List CT
  | none => [boolC false, .ex (.slice none 0 0), .ex (.slice none 0 0)]
  | some q => frCs (ofQ q)
theorem frO_len (o : Option Rat) : (frO o).length = 3 := by cases o <;> rfl
def frR (l : List (Option Rat)) : List CT := (l.map frO).flatten
theorem Zz (l : List (Option Rat)) : (frR l).length = l.length * 3 := by
  unfold frR; rw [Xm (k := 3) (by intro e he; obtain ⟨o, _, rfl⟩ := List.mem_map.1 he; exact frO_len o)]; simp
theorem frR_put {l : List (Option Rat)} {j : Nat} (q : Rat) (h : j < l.length) : (frR l).take (j * 3) ++ frCs (ofQ q) ++ (frR l).drop (j * 3 + 3) = frR (l.set j (some q)) := by
  induction l generalizing j with
  | nil => simp at h
  | cons o l ih =>
    have e : ∀ (o : Option Rat) (l : List (Option Rat)), frR (o :: l) = frO o ++ frR l := fun _ _ => rfl
    have h3 := frO_len o
    have t1 : ∀ m, (frO o ++ frR l).take (3 + m) = frO o ++ (frR l).take m := fun m => by rw [List.take_append, h3, List.take_of_length_le (by omega), show 3 + m - 3 = m by omega]
    have t2 : ∀ m, (frO o ++ frR l).drop (3 + m) = (frR l).drop m := fun m => by rw [List.drop_append, h3, List.drop_of_length_le (by omega), show 3 + m - 3 = m by omega]; rfl
    cases j with
    | zero =>
      have := t2 0; rw [List.set_cons_zero, e, e, show 0 * 3 + 3 = 3 + 0 by omega, this]; rfl
    | succ j =>
      have := ih (j := j) (by simpa using h); rw [List.set_cons_succ, e, e, ← this, show (j + 1) * 3 = 3 + j * 3 by omega, show 3 + j * 3 + 3 = 3 + (j * 3 + 3) by omega, t1, t2]; simp
theorem frR_made (n : Nat) : zinit (.agg #[.bool false, .slice none 0 0, .slice none 0 0]) n = frR (List.replicate n none) := by
  unfold zinit frR; rw [List.map_replicate]; rfl
theorem frR_frozen (e : Nat) (qs : List Rat) : (Ent.row e 3 (frR (qs.map some))).frozen (sliceT 3 ((qs.map ofQ).map frCs)) :=
  ⟨(qs.map ofQ).map frCs, by unfold frR; simp only [List.map_map]; rfl, by intro x hx; obtain ⟨f, _, rfl⟩ := List.mem_map.1 hx; rfl, by decide, rfl⟩
section
variable {X : Ctx} {L : AL} {B : BL} {ops : Array Oper} {K : Act → World → Prop} {r : Pl} {k : Kd}
  {x y z : Operand} {d : Nat} {t t2 t' : TypeId} {pos : String} {af : Array Edge} {g : Option (Nat × Bool)}
theorem stFr {i j el : Nat} {l : List (Option Rat)} {q : Rat} (hg : gd ops L g = some true) (hx : ev L x = some (.loc i (j * 3))) (hi : bget B i = some (.row el 3 (frR l))) (hy : ev L y = some (.ct (ratC q))) (hj : j < l.length) (hsz : (X.P.info? t).map (·.size) = some 3)
    (h : Ops X ops r L (bset B i (.row el 3 (frR (l.set j (some q))))) K) : Ops X ops (.cons ⟨none, .store t x y, t', pos, af, g⟩ .any r) L B K :=
  Ops.stNA hg hx hi hy rfl hsz (by show j * 3 + 3 ≤ (frR l).length; rw [Zz]; omega) (by
    have : (Ent.row el 3 (frR l)).putc (j * 3) (frCs (ofQ q)) = .row el 3 (frR (l.set j (some q))) := by rw [← frR_put q hj]; rfl
    rw [this]; exact h)
end
theorem Y8 (D : Int) : shq 0 D = 0 := by unfold shq; exact Rat.zero_mkRat _
def ptS (T : Tv) (n : Nat) : Nat → List Rat
  | 0 => List.replicate n 0
  | i + 1 => if T.bas.getD i 0 < n then (ptS T n i).set (T.bas.getD i 0).toNat (shq (T.at i T.col.length) T.den) else ptS T n i
theorem ptS_len (T : Tv) (n : Nat) : ∀ i, (ptS T n i).length = n
  | 0 => by simp [ptS]
  | i + 1 => by simp only [ptS]; split <;> simp [ptS_len T n i]
theorem rep_set (n j : Nat) (h : j < n) : (List.replicate j (some (0 : Rat)) ++ List.replicate (n - j) none).set j (some 0) = List.replicate (j + 1) (some 0) ++ List.replicate (n - (j + 1)) none := by
  rw [List.set_append_right _ _ (by simp), List.length_replicate, Nat.sub_self, show n - j = (n - (j + 1)) + 1 by omega, List.replicate_succ, List.set_cons_zero, List.replicate_succ']; simp
theorem gopoint : InGo Tryz.prog 72 := InGo.of Tryz.func72 (by kernel_rfl) (by kernel_rfl)
set_option maxHeartbeats 8000000 in
theorem point_ok (T : Tv) (G : Gd T) (n : Nat) (hn : n ≤ 100) (hb : ∀ i, 0 ≤ T.bas.getD i 0) : OkM Tryz.prog 72 [.own 0, .ct (intC n)] (tabB T) [0] (fun _ : Unit => True) (fun _ => .ct (fracsC ((ptS T n T.bas.length).map ofQ))) (fun _ => tabB T) := by
  have hfew := G.fit.few; have hthin := G.fit.thin; have hhl := G.fit.hl; have hbas := G.fit.bas; have hDs := G.dens; have hof := of_ok 0 (by decide) (by decide); have hsh0 := share_ok T 0 (by rw [show (0 : Int).natAbs = 0 from rfl, limbs_zero]; decide) G.den (by omega); rw [Y8] at hsh0
  refine OkM.enter Tryz.func72 J _ Tryz.ntmps72 J (tab_fx T) ?_
  intro S w ρ0 hbor
  have hfix : ∀ e : Ent, ∀ p ∈ (lentM Tryz.prog 57 S w (tabB T) [0] ρ0).fix, (bget [(5, e)] p.1).isSome = true ∨ p.1 ∈ [0] := fun e p hp => by
    obtain ⟨i, hi, rfl⟩ := List.mem_map.1 hp; exact .inr hi
  refine Qy (Qx fun K hK => ?_); refine Qv J J J (Qj (hK _ _ (Qz (Qy ?_)))); clear hK K; refine Qx (fun K hK => ?_); refine Qq J J J (Z5 5 n J J J J sFracs (by omega) (by omega) J (by exact Zl 10 _ _ 5 (by decide)) J ?_); rw [frR_made]; refine Qv J J J (Qj (hK _ _ (Qz (Qy (Qy ?_))))); clear hK K; refine Qx (fun K hK => ?_); refine Qq J J J (Ops.lenR n J J J (by decide) (by rw [Zz]; simp) sFracs.und J ?_); refine Qq J J J (Qj (hK _ _ (Qz (Q0 ?_)))); clear hK K
  refine Xq (α := Nat) (fun j => j ≤ n)
    (fun j => [(0, .own 0), (1, .ct (intC n)), (5, .own 5), (12, .ct (intC n)), (13, .ct (intC j))])
    (fun j => (5, .row 38 3 (frR (List.replicate j (some 0) ++ List.replicate (n - j) none))) :: tabB T) (fun j => n - j) 0 (Nat.zero_le _) (by exact Qu J ⟨rfl, rfl, rfl, rfl, rfl, trivial⟩) ?_
  intro j hj
  (try dsimp only at hj ⊢)
  refine Qy (Qx fun K hK => ?_); refine Qw ilss J J J J (Qj (hK _ _ (Qz (Qy ?_)))); clear hK K; refine QK J (fun h => ?_) (fun h => ?_)
  · have kj : (j : Int).toNat * 3 = j * 3 := by omega
    refine QU (Qz (Qy (Q0 (Qy (Qx fun K hK => ?_))))); refine Qq J J J (Qv J J J (Qj (hK _ _ (Qz ?_)))); clear hK K; refine Qx (fun K hK => ?_); refine Qq J J J (Qq J J J (Qq J J J (QQ goof hof J J J J (Xh [(5, _)] goshare hsh0 J J J hbor J J (hfix _) (fun _ _ => ?_))))); skip
    refine Xu n J J J (by rw [Zz]; simp; omega) J sFracs (by omega) (by omega) J ?_
    rw [kj]
    refine stFr J J J J (by simp; omega) szFrac ?_
    rw [rep_set n j (by omega)]; refine Qj (hK _ _ (Qz ?_)); clear hK K; refine Qx (fun K hK => ?_)
    refine Qw (iadd (by omega) (by omega)) J J J J ?_
    refine Qq J J J (Qj (hK _ _ (Q4 ?_))); clear hK K; refine Qb (j + 1) (by omega) (by omega) (by exact Qu J ⟨rfl, rfl, rfl, rfl, by simp only [Int.natCast_add]; rfl, trivial⟩)
  have hjn : j = n := by omega
  subst hjn; rw [Nat.sub_self, List.replicate_zero, List.append_nil, show List.replicate j (some (0 : Rat)) = (ptS T j 0).map some by simp [ptS]]; refine Qr (Qz (Qy (Qy (Qx fun K hK => ?_)))); refine Qq J J J (Q5 J J J J (QV J J J fT1 J (QJ J J J J J lInts J (ZK 2 T.bas.length J J J (by decide) (by simp) sInts.und J ?_)))); refine Qq J J J (Qj (hK _ _ (Qz (Q0 ?_)))); clear hK K
  refine Xq (α := Nat) (fun i => i ≤ T.bas.length)
    (fun i => [(0, .own 0), (1, .ct (intC j)), (5, .own 5), (26, .ct (.ex T.hB)), (27, .ct (intC T.bas.length)), (28, .ct (intC i))])
    (fun i => (5, .row 38 3 (frR ((ptS T j i).map some))) :: tabB T) (fun i => T.bas.length - i) 0 (Nat.zero_le _) (by exact Qu J ⟨rfl, rfl, rfl, rfl, rfl, rfl, trivial⟩) ?_
  intro i hi
  (try dsimp only at hi ⊢)
  have hpl := ptS_len T j i
  have es : ptS T j (i + 1) = if T.bas.getD i 0 < j then (ptS T j i).set (T.bas.getD i 0).toNat (shq (T.at i T.col.length) T.den) else ptS T j i := rfl
  have hbi := hb i; generalize hcur : ptS T j i = cur at *; simp only [tabB]; refine Qy (Qx fun K hK => ?_); refine Qw ilss J J J J (Qj (hK _ _ (Qz (Qy ?_)))); clear hK K; refine QK J (fun h => ?_) (fun h => ?_)
  · have hi2 : i < T.rows.length := by omega
    have hrow := G.fit.row i hi2
    have ki : (i : Int).toNat * 1 = i := by omega
    have kl : ((T.col.length : Int)).toNat * 2 = T.col.length * 2 := by omega
    have sa := G.short i T.col.length; have hsh := share_ok T (T.at i T.col.length) (by omega) G.den (by omega); refine QU (Qz (Qy (Q0 (Qy (Qx fun K hK => ?_))))); refine Qq J J J (Qo 2 T.bas.length J J J (by simp) J sInts (by omega) (by omega) J ?_); rw [ki]
    refine QJ J J J J (Xi (by omega)) lInt J ?_
    generalize T.bas.getD i 0 = v at *; refine Qv J J J (Qv J J J (Qj (hK _ _ (Qz (Qy ?_))))); clear hK K; refine Qx (fun K hK => ?_); refine Qq J J J (Qq J J J (Qw ilss J J J J (Qj (hK _ _ (Qz ?_))))); clear hK K; refine QK J (fun h2 => ?_) (fun h2 => ?_)
    · rw [if_pos h2] at es; have kv : v.toNat * 3 = v.toNat * 3 := rfl; skip; refine St.drawL mixed [17, 19] (.p 0 (.p 1 (.p 2 (.p 3 (.p 4 (.p 5 (.p 7 (.p 10 (.p 11 (.p 12 (.f 6 (.p 8 (.f 9 (.f 13 (.p 14 (.p 15 (.f 16 (.a 17 (.p 18 (.a 19 .done)))))))))))))))))))) (by kernel_rfl) (fun K hK => ?_); refine Qq J J J (Qq J J J (Qq J J J (Qq J J J (Q5 J J J J (QV J J J fT0 J (Qq J J J (Qq J J J (Q5 J J J J (QV J J J fT2 J (QJ J J J J J lMat J (Qo 1 T.rows.length J J J (by simp [hhl]) J sMat (by omega) (by omega) J ?_))))))))))); rw [ki]
      refine QJ J J J J (Yk (by omega)) lWhs J ?_
      refine QJ J J J J J lInts J (ZK 3 T.col.length J J J (by decide) (by simp) sInts.und J ?_)
      refine Qo (i + 10) (T.col.length + 1) J J (XK (by omega) hi2) (by rw [X9, hrow]) J sWhs (by omega) (by omega) J ?_
      rw [kl]
      refine ldWh J J J (XK (by omega) hi2) J (by omega) lWh J ?_
      refine Xh [(5, _)] goshare hsh J J J hbor J J (hfix _) (fun _ _ => ?_)
      refine Xu j J J J (by rw [Zz]; simp; omega) J sFracs (by omega) (by omega) J ?_
      refine stFr J J J J (by simp; omega) szFrac ?_
      rw [show (cur.map some).set v.toNat (some (shq (T.at i T.col.length) T.den)) = (ptS T j (i + 1)).map some by rw [es, List.map_set]]; refine Qj (hK _ _ (Qz ?_)); clear hK K; refine Qx (fun K hK => ?_)
      refine Qw (iadd (by omega) (by omega)) J J J J ?_
      refine Qq J J J (Qj (hK _ _ (Q4 ?_))); clear hK K; refine Qb (i + 1) (by omega) (by omega) (by exact Qu J ⟨rfl, rfl, rfl, rfl, rfl, by simp only [Int.natCast_add]; rfl, trivial⟩)
    · rw [if_neg h2] at es; refine QU (Qz (Qx fun K hK => ?_))
      refine Qw (iadd (by omega) (by omega)) J J J J ?_
      refine Qq J J J (Qj (hK _ _ (Q4 ?_))); clear hK K; refine Qb (i + 1) (by omega) (by omega) (by exact Qu (by rw [es]) ⟨rfl, rfl, rfl, rfl, rfl, by simp only [Int.natCast_add]; rfl, trivial⟩)
  · have hi' : i = T.bas.length := by omega
    subst hi'; refine Xl 5 _ J (frR_frozen _ _) hbor (Qr (Qz (Qy (Qx fun K hK => ?_)))); refine Qq J J J (Qv J J J (Qj (hK _ _ (Qz (Q2 ?_))))); clear hK K; refine YK () [_] rfl (QZ J QX) (by rw [hcur]; rfl) (tab_del (by decide) (by decide)) (tab_fx T) trivial
end Go.Proofs.YtdhmbgogmoaofaaGreat
