/- The proof that FarkasAccepts holds for every input, without conditions: part 6 of 6. -/
import Derived.Test.YtdhmbgogmoaofaaGreatZ5
import Derived.ProofKit
import Derived.OpenShut
import Derived.ShutString
import Derived.ChangeOld
import Derived.Below
import Derived.DataElems
import Derived.Test.YtdhmbgogmoaofaaGreatRows
namespace Go.Proofs.YtdhmbgogmoaofaaGreat
open Go.Own Go.Limbs Go.Det
theorem shq_add (a b D : Int) : shq (a + b) D = shq a D + shq b D := by
  unfold shq
  rcases Nat.eq_zero_or_pos D.natAbs with h | h
  · rw [h, Rat.mkRat_zero, Rat.mkRat_zero, Rat.mkRat_zero, Rat.add_zero]
  · rw [Rat.mkRat_add_mkRat _ _ (by omega) (by omega), ← Int.add_mul, Rat.mkRat_mul_right (by omega)]
theorem ptl_at {n : Nat} {X : Nat → Int} {D : Int} {k : Nat} (h : k < n) : (ptl n X D).getD k fr0 = ofQ (shq (X k) D) := by
  unfold ptl
  simp [List.getD_eq_getElem?_getD, List.getElem?_map, h]
theorem ptl_len (n : Nat) (X : Nat → Int) (D : Int) : (ptl n X D).length = n := by simp [ptl]
theorem psum_ptl (c : List Int) (n : Nat) (X : Nat → Int) (D : Int) : ∀ k, k ≤ n → psum c (ptl n X D) k = shq (sm (fun j => c.getD j 0 * X j) k) D
  | 0, _ => by simp [psum, sm, shq_zero]
  | k + 1, h => by
    simp only [psum, sm]
    rw [psum_ptl c n X D k (by omega), ptl_at (by omega), qv_ofQ, shq_add, shq_mul, Rat.mul_comm]
theorem sm_tail (f : Nat → Int) {m n : Nat} (h : m ≤ n) (hz : ∀ k, m ≤ k → f k = 0) : sm f n = sm f m := by
  obtain ⟨k, rfl⟩ := Nat.le.dest h
  rw [sm_app, sm_zero (f := fun j => f (m + j)) fun j _ => hz _ (by omega), Int.add_zero]
theorem vsum_ptl (c : List Int) (n : Nat) (X : Nat → Int) (D : Int) (h : c.length ≤ n) : vsum c (ptl n X D) = shq (sm (fun j => c.getD j 0 * X j) n) D := by
  unfold vsum
  rw [ptl_len, Nat.min_eq_left h, psum_ptl c n X D _ h, sm_tail _ h fun k hk => by rw [getD_ge hk, Int.zero_mul]]
theorem cmpQ_neg {p q : Rat} : cmpQ p q < 0 ↔ p < q := by
  rw [Rat.lt_iff]
  unfold cmpQ
  rw [Int.sign_neg_iff]
  omega
theorem cmpQ_le_iff {p q : Rat} : cmpQ p q ≤ 0 ↔ p ≤ q := by
  rw [Rat.le_iff]
  unfold cmpQ
  rw [Int.sign_nonpos_iff]
  omega
theorem cmpQ_self (p : Rat) : cmpQ p p = 0 := by unfold cmpQ; rw [Int.sub_self]; rfl
theorem shq_le_int {a D b : Int} (hD : 0 < D) (h : a ≤ D * b) : shq a D ≤ (b : Rat) := by
  rw [← Rat.mkRat_one b]
  unfold shq
  exact mkR_le (by omega) (by omega) (by rw [show ((D.natAbs : Nat) : Int) = D by omega]; have := Int.mul_comm b D; omega)
theorem int_le_shq {a D b : Int} (hD : 0 < D) (h : D * b ≤ a) : (b : Rat) ≤ shq a D := by
  rw [← Rat.mkRat_one b]
  unfold shq
  exact mkR_le (by omega) (by omega) (by rw [show ((D.natAbs : Nat) : Int) = D by omega]; have := Int.mul_comm b D; omega)
theorem shq_num_sign {a D : Int} (hD : 0 < D) : (0 ≤ a → 0 ≤ (shq a D).num) ∧ (a < 0 → (shq a D).num < 0) ∧ (0 < a → 0 < (shq a D).num) := by
  have key : ∃ m : Nat, m ≠ 0 ∧ a = (shq a D).num * m := by
    unfold shq
    cases e : mkRat a D.natAbs with
    | mk' p d z c =>
      obtain ⟨m, hm, e1, e2⟩ := Rat.mkRat_num_den (by omega) e
      exact ⟨m, hm, e1⟩
  obtain ⟨m, hm, e⟩ := key
  have hm' : (0 : Int) < m := by omega
  generalize (shq a D).num = q at e
  subst e
  refine ⟨fun h => ?_, fun h => ?_, fun h => ?_⟩
  · exact Int.not_lt.1 fun h1 => by have := Int.mul_neg_of_neg_of_pos h1 hm'; omega
  · exact Int.not_le.1 fun h1 => by have := Int.mul_nonneg h1 (Int.le_of_lt hm'); omega
  · exact Int.not_le.1 fun h1 => by have := Int.mul_nonneg (Int.neg_nonneg_of_nonpos h1) (Int.le_of_lt hm'); rw [Int.neg_mul] at this; omega
end Go.Proofs.YtdhmbgogmoaofaaGreat
namespace Go.Proofs.YtdhmbgogmoaofaaGreat
open Go.Own Go.Limbs
attribute [local irreducible] St Ops Go.Own.Fin Ok
theorem zvInt : (Tryz.prog.info? 3).map (·.zero) = some (some (.int .i64 0)) := by kernel_rfl
theorem multipliers1_tw (m : Int) (hm : Tb m) (h0 : 0 ≤ m) : Ok Tryz.prog 145 [twC m] (boolC false) := by
  refine Ok.enter Tryz.func145 rfl _ Tryz.ntmps145 rfl ?_
  intro S w
  (refine St.seq ?_; refine St.regionK (fun K hK => ?_); refine Ops.boxN 0 rfl rfl rfl rfl rfl rfl rfl ?_; refine Ops.assign rfl rfl rfl ?_; refine Ops.nil (hK _ _ ?_); clear hK K; refine Fin.then ?_; refine St.seq ?_; refine St.regionK (fun K hK => ?_); refine Ops.ldNO (n := 3) rfl rfl rfl rfl rfl (by with_reducible exact lFrac) rfl ?_)
  refine Ops.call goFValid (Valid_tw m hm) rfl rfl rfl rfl ?_
  (refine Ops.inot rfl rfl rfl ?_; refine Ops.move rfl rfl rfl ?_; refine Ops.fldO rfl rfl rfl (by with_reducible first | exact fF0 | exact fF1 | exact fF2 | exact fR0 | exact fR1) rfl ?_; refine Ops.ld1A rfl rfl rfl rfl rfl (by with_reducible first | exact lInt | exact lNat | exact lBool | exact lInts) rfl ?_; refine Ops.pickF rfl rfl rfl rfl ?_; refine Ops.assign rfl rfl rfl ?_; refine Ops.nil (hK _ _ ?_); clear hK K; refine Fin.then ?_; refine St.ret ?_)
  refine Fin.ret [_] rfl (AllRes.tmp rfl AllRes.nil) (by rw [tf_neg, decide_eq_false (show ¬ m < 0 by omega)]; rfl) rfl
theorem gomultipliers1 : InGo Tryz.prog 145 := InGo.of Tryz.func145 (by kernel_rfl) (by kernel_rfl)
theorem multipliers_tw (rs : List Rw) (ys : List Int) (hl : ys.length = rs.length) (h64 : rs.length ≤ 64) (hy : ∀ y ∈ ys, 0 ≤ y ∧ y ≤ 1000) : Ok Tryz.prog 96 [rowsC rs, twsC ys] (boolC true) := by
  have hC := ContainsFunc_fracs (ys.map tf) _ (fun _ => false) gomultipliers1 (fun f hf => by
    obtain ⟨m, hm, rfl⟩ := List.mem_map.mp hf
    exact multipliers1_tw m (by have := hy m hm; unfold Tb; omega) (hy m hm).1) (by simp; omega)
  rw [← twsC_eq, show (ys.map tf).any (fun _ => false) = false by simp] at hC
  refine Ok.enter Tryz.func96 rfl _ Tryz.ntmps96 rfl ?_
  intro S w
  (refine St.seq ?_; refine St.regionK (fun K hK => ?_); refine Ops.assign rfl rfl rfl ?_; refine Ops.nil (hK _ _ ?_); clear hK K; refine Fin.then ?_; refine St.seq ?_; refine St.regionK (fun K hK => ?_); refine Ops.move rfl rfl rfl ?_; refine Ops.lenF rfl rfl (by with_reducible first | exact sFracs.und | exact sRows.und) (List.length_map ..) rfl ?_; refine Ops.move rfl rfl rfl ?_; refine Ops.lenF rfl rfl (by with_reducible first | exact sFracs.und | exact sRows.und) (List.length_map ..) rfl ?_; refine Ops.ibin ieql rfl rfl rfl rfl ?_; refine Ops.move rfl rfl rfl ?_)
  rw [decide_eq_true (show (ys.length : Int) = rs.length by omega)]
  (refine Ops.move rfl rfl rfl ?_)
  refine Ops.call goContainsFunc_fracs hC rfl rfl rfl rfl ?_
  (refine Ops.inot rfl rfl rfl ?_; refine Ops.pickT rfl rfl rfl rfl ?_; refine Ops.assign rfl rfl rfl ?_; refine Ops.nil (hK _ _ ?_); clear hK K; refine Fin.then ?_; refine St.ret ?_)
  refine Fin.ret [_] rfl (AllRes.tmp rfl AllRes.nil) rfl rfl
theorem gomultipliers : InGo Tryz.prog 96 := InGo.of Tryz.func96 (by kernel_rfl) (by kernel_rfl)
theorem take_map_succ {α β : Type} (f : α → β) (z : α) {xs : List α} {i : Nat} (h : i < xs.length) : (xs.take (i + 1)).map f = (xs.take i).map f ++ [f (xs.getD i z)] := by
  rw [List.take_succ_eq_append_getElem h, List.map_append]
  simp [List.getD_eq_getElem?_getD, List.getElem?_eq_getElem h]
set_option maxHeartbeats 4000000 in
theorem fold_tw (rs : List Rw) (ys : List Int) (f : FuncId) (caps : List CT) (num : Rw → Int) (hgo : InGo Tryz.prog f) (hf : ∀ r ∈ rs, Ok Tryz.prog f ([rowC r] ++ caps) (intC (num r))) (hl : rs.length ≤ 64) (hly : ys.length ≤ 64) (hn : ∀ r ∈ rs, (num r).natAbs ≤ 9007199254740992) (hy : ∀ y ∈ ys, y.natAbs ≤ 1000) :
    Ok Tryz.prog 97 [rowsC rs, twsC ys, .fr (closT f caps)] (.fr (tupT [twC (dot (rs.map num) ys), intC 0])) := by
  refine Ok.enter Tryz.func97 rfl _ Tryz.ntmps97 rfl ?_
  intro S w
  (refine St.seq ?_; refine St.regionK (fun K hK => ?_); refine Ops.alloc 0 rfl rfl (by with_reducible first | exact zvFrac) rfl rfl rfl ?_; refine Ops.assign rfl rfl rfl ?_; refine Ops.nil (hK _ _ ?_); clear hK K; refine Fin.then ?_; refine St.seq ?_; refine St.regionK (fun K hK => ?_); refine Ops.assign rfl rfl rfl ?_; refine Ops.nil (hK _ _ ?_); clear hK K; refine Fin.then ?_; refine St.seq ?_; refine St.seq ?_; refine St.regionK (fun K hK => ?_); refine Ops.move rfl rfl rfl ?_; refine Ops.lenF rfl rfl (by with_reducible first | exact sFracs.und | exact sRows.und) (List.length_map ..) rfl ?_; refine Ops.move rfl rfl rfl ?_; refine Ops.nil (hK _ _ ?_); clear hK K; refine Fin.then ?_; refine St.block ?_)
  refine St.nilRow 8 1 3 1 rfl rfl rfl ?_
  skip
  refine St.loop (α := Nat) (fun i => i ≤ rs.length)
    (fun i => [(1, .ct (twsC ys)), (2, .ct (.fr (closT f caps))), (6, .own 0), (8, .own 1), (11, .ct (rowsC rs)), (12, .ct (intC rs.length)), (13, .ct (intC i))])
    (fun i => [(1, .row 3 1 (ints ((rs.take i).map num))), (0, .box 38 [.ex (.bool false), .ex (.slice none 0 0), .ex (.slice none 0 0)])]) (fun i => rs.length - i) 0 (Nat.zero_le _) (by exact Entails.of rfl ⟨rfl, rfl, rfl, rfl, rfl, rfl, rfl, trivial⟩) ?_
  intro i hi
  dsimp only at hi ⊢
  (refine St.seq ?_; refine St.regionK (fun K hK => ?_); refine Ops.ibin ilss rfl rfl rfl rfl ?_; refine Ops.nil (hK _ _ ?_); clear hK K; refine Fin.then ?_; refine St.seq ?_)
  refine St.condP rfl (fun h => ?_) (fun h => ?_)
  · have e2 : (i : Int).toNat = i := Int.toNat_natCast i
    have hlt : i < rs.length := by omega
    (refine St.skip ?_; refine Fin.then ?_; refine St.seq ?_; refine St.block ?_; refine St.seq ?_; refine St.regionK (fun K hK => ?_); refine Ops.idxF rfl rfl rfl (by with_reducible exact sRows) (by omega) (rows_at (by omega) (by omega)) rfl ?_; refine Ops.ldNF (n := 2) rfl rfl rfl (by with_reducible exact lRow) rfl rfl ?_; refine Ops.alloc 2 rfl rfl (by with_reducible exact zvRow) rfl rfl rfl ?_; refine Ops.stWN 2 rfl rfl rfl rfl rfl (by with_reducible exact szRow) rfl rfl ?_; refine Ops.nil (hK _ _ ?_); clear hK K; refine Fin.then ?_; refine St.regionK (fun K hK => ?_); refine Ops.move rfl rfl rfl ?_; refine Ops.move rfl rfl rfl ?_; refine Ops.ldNO (n := 2) rfl rfl rfl rfl rfl (by with_reducible exact lRow) rfl ?_)
    rw [e2]
    skip
    refine Ops.callC hgo rfl (hf (rs.getD i rw0) (getD_mem hlt)) rfl rfl rfl rfl ?_
    refine Ops.lit1 rfl rfl (by with_reducible exact sInts) rfl rfl rfl ?_
    refine Ops.append1 i (ints ((rs.take (i + 1)).map num)) rfl rfl rfl rfl (by with_reducible exact sInts) (by simp [ints]; omega) rfl (by omega) (by omega) (by rw [take_map_succ num rw0 hlt]; simp [ints]) rfl ?_
    (refine Ops.assign rfl rfl rfl ?_; refine Ops.nil (hK _ _ ?_); clear hK K; refine Fin.then ?_; refine St.regionK (fun K hK => ?_); refine Ops.ibin (iadd (by omega) (by omega)) rfl rfl rfl rfl ?_; refine Ops.move rfl rfl rfl ?_; refine Ops.nil (hK _ _ ?_); clear hK K; refine Fin.thenN ?_)
    refine Fin.dropB 2 ?_
    refine Fin.next (i + 1) (by omega) (by omega) (by exact Entails.of rfl ⟨rfl, rfl, rfl, rfl, rfl, rfl, by simp only [Int.natCast_add]; rfl, trivial⟩)
  · have hi' : i = rs.length := by omega
    have e : (rs.take i).map num = rs.map num := by rw [hi', List.take_length]
    rw [e]
    refine St.freeze 1 _ rfl (ints_frozen _ _) noBor_sub ?_
    (refine St.exit ?_; refine Fin.then ?_; refine St.seq ?_; refine St.regionK (fun K hK => ?_); refine Ops.move rfl rfl rfl ?_; refine Ops.move rfl rfl rfl ?_)
    refine Ops.call goValue (Value_tw (rs.map num) ys (by simp; omega) hly (fun y hy' => by
      obtain ⟨r, hr, rfl⟩ := List.mem_map.mp hy'
      exact hn r hr) hy) rfl rfl rfl rfl ?_
    (refine Ops.extract rfl rfl rfl rfl ?_; refine Ops.extract rfl rfl rfl rfl ?_; refine Ops.stWN 3 rfl rfl rfl rfl rfl (by with_reducible exact szFrac) rfl rfl ?_; refine Ops.assign rfl rfl rfl ?_; refine Ops.nil (hK _ _ ?_); clear hK K; refine Fin.then ?_; refine St.ret ?_)
    refine Fin.ret [_, _] rfl (AllRes.cellN (n := 3) rfl rfl (by with_reducible exact lFrac) rfl (AllRes.tmp rfl AllRes.nil)) rfl rfl
theorem gofold : InGo Tryz.prog 97 := InGo.of Tryz.func97 (by kernel_rfl) (by kernel_rfl)
theorem Combine1_ok (j : Nat) (r : Rw) : Ok Tryz.prog 98 ([rowC r] ++ [.fr (ptrT [intC j])]) (intC (r.cs.getD j 0)) := by
  refine Ok.enter Tryz.func98 rfl _ Tryz.ntmps98 rfl ?_
  intro S w
  (refine St.seq ?_; refine St.regionK (fun K hK => ?_); refine Ops.boxN 0 rfl rfl rfl rfl rfl rfl rfl ?_; refine Ops.assign rfl rfl rfl ?_; refine Ops.nil (hK _ _ ?_); clear hK K; refine Fin.then ?_; refine St.seq ?_; refine St.seq ?_; refine St.regionK (fun K hK => ?_); refine Ops.ld1F rfl rfl rfl (by with_reducible first | exact lInt | exact lNat | exact lBool | exact lInts) rfl ?_; refine Ops.fldO rfl rfl rfl (by with_reducible first | exact fF0 | exact fF1 | exact fF2 | exact fR0 | exact fR1) rfl ?_; refine Ops.ld1A rfl rfl rfl rfl rfl (by with_reducible first | exact lInt | exact lNat | exact lBool | exact lInts) rfl ?_; refine Ops.lenF rfl rfl (by with_reducible first | exact sNat.und | exact sInts.und) (List.length_map ..) rfl ?_; refine Ops.ibin ilss rfl rfl rfl rfl ?_; refine Ops.nil (hK _ _ ?_); clear hK K; refine Fin.then ?_)
  refine St.condP rfl (fun h => ?_) (fun h => ?_)
  · have e2 : (j : Int).toNat = j := Int.toNat_natCast j
    (refine St.seq ?_; refine St.regionK (fun K hK => ?_); refine Ops.fldO rfl rfl rfl (by with_reducible first | exact fF0 | exact fF1 | exact fF2 | exact fR0 | exact fR1) rfl ?_; refine Ops.ld1A rfl rfl rfl rfl rfl (by with_reducible first | exact lInt | exact lNat | exact lBool | exact lInts) rfl ?_; refine Ops.ld1F rfl rfl rfl (by with_reducible first | exact lInt | exact lNat | exact lBool | exact lInts) rfl ?_; refine Ops.idxF rfl rfl rfl (by with_reducible first | exact sNat | exact sInts) (by omega) (ints_at (by omega) (by omega)) rfl ?_; refine Ops.ld1F rfl rfl rfl (by with_reducible first | exact lInt | exact lNat | exact lBool | exact lInts) rfl ?_; refine Ops.assign rfl rfl rfl ?_; refine Ops.nil (hK _ _ ?_); clear hK K; refine Fin.then ?_; refine St.ret ?_; refine Fin.thenRet ?_)
    rw [e2]
    skip
    refine Fin.ret [_] rfl (AllRes.tmp rfl AllRes.nil) rfl rfl
  · (refine St.skip ?_; refine Fin.then ?_; refine St.seq ?_; refine St.regionK (fun K hK => ?_); refine Ops.assign rfl rfl rfl ?_; refine Ops.nil (hK _ _ ?_); clear hK K; refine Fin.then ?_; refine St.ret ?_)
    refine Fin.ret [_] rfl (AllRes.tmp rfl AllRes.nil) (by rw [List.getD_eq_getElem?_getD, List.getElem?_eq_none (by omega)]; rfl) rfl
theorem goCombine1 : InGo Tryz.prog 98 := InGo.of Tryz.func98 (by kernel_rfl) (by kernel_rfl)
theorem Combine2_ok (r : Rw) : Ok Tryz.prog 99 [rowC r] (intC r.b) := by
  refine Ok.enter Tryz.func99 rfl _ Tryz.ntmps99 rfl ?_
  intro S w
  (refine St.seq ?_; refine St.regionK (fun K hK => ?_); refine Ops.boxN 0 rfl rfl rfl rfl rfl rfl rfl ?_; refine Ops.assign rfl rfl rfl ?_; refine Ops.nil (hK _ _ ?_); clear hK K; refine Fin.then ?_; refine St.seq ?_; refine St.regionK (fun K hK => ?_); refine Ops.fldO rfl rfl rfl (by with_reducible first | exact fF0 | exact fF1 | exact fF2 | exact fR0 | exact fR1) rfl ?_; refine Ops.ld1A rfl rfl rfl rfl rfl (by with_reducible first | exact lInt | exact lNat | exact lBool | exact lInts) rfl ?_; refine Ops.assign rfl rfl rfl ?_; refine Ops.nil (hK _ _ ?_); clear hK K; refine Fin.then ?_; refine St.ret ?_)
  refine Fin.ret [_] rfl (AllRes.tmp rfl AllRes.nil) rfl rfl
theorem goCombine2 : InGo Tryz.prog 99 := InGo.of Tryz.func99 (by kernel_rfl) (by kernel_rfl)
end Go.Proofs.YtdhmbgogmoaofaaGreat
namespace Go.Proofs.YtdhmbgogmoaofaaGreat
open Go.Own Go.Limbs
attribute [local irreducible] St Ops Go.Own.Fin Ok
def frs (ms : List Int) : List CT := (ms.map fun m => frCs (tf m)).flatten
theorem frs_len (ms : List Int) : (frs ms).length = ms.length * 3 := by
  unfold frs
  rw [flatten_length (k := 3) (fun e he => by obtain ⟨m, _, rfl⟩ := List.mem_map.mp he; rfl)]; simp
theorem frs_snoc (ms : List Int) (m : Int) : frs (ms ++ [m]) = frs ms ++ frCs (tf m) := by simp [frs]
theorem frs_frozen (e : Nat) (ms : List Int) : (Ent.row e 3 (frs ms)).frozen (sliceT 3 (ms.map fun m => frCs (tf m))) :=
  ⟨_, rfl, fun e he => by obtain ⟨m, _, rfl⟩ := List.mem_map.mp he; rfl, by decide, rfl⟩
def col (rs : List Rw) (ys : List Int) (j : Nat) : Int := dot (rs.map fun r => r.cs.getD j 0) ys
def cols (rs : List Rw) (ys : List Int) (n : Nat) : List Int := (List.range n).map (col rs ys)
def bsum (rs : List Rw) (ys : List Int) : Int := dot (rs.map fun r => r.b) ys
theorem dot_bd {c x : List Int} (hl : x.length ≤ 64) (hc : ∀ y ∈ c, y.natAbs ≤ 9007199254740992) (hx : ∀ y ∈ x, y.natAbs ≤ 1000) : (dot c x).natAbs ≤ 576460752303423488000 := by
  have := dotN_bd (k := min c.length x.length) hc hx
  unfold dot
  have : min c.length x.length * 9007199254740992000 ≤ 64 * 9007199254740992000 := Nat.mul_le_mul_right _ (by omega)
  omega
set_option maxHeartbeats 4000000 in
theorem Combine_tw (n : Nat) (rs : List Rw) (ys : List Int) (hv : validR n rs = true) (hl : ys.length = rs.length) (hy : ∀ y ∈ ys, 0 ≤ y ∧ y ≤ 1000) :
    Ok Tryz.prog 40 [intC n, rowsC rs, twsC ys] (.fr (tupT [twsC (cols rs ys n), twC (bsum rs ys), intC 0])) := by
  obtain ⟨v1, v2, v3, v4⟩ := validR_spec hv
  have hy' : ∀ y ∈ ys, y.natAbs ≤ 1000 := fun y h => by have := hy y h; omega
  have hV := LValid_ok n rs (by omega) (fun r hr => by have := (v4 r hr).1; omega)
  rw [hv] at hV
  have hM := multipliers_tw rs ys hl v3 hy
  have hF : ∀ j : Nat, Ok Tryz.prog 97 [rowsC rs, twsC ys, .fr (closT 98 [.fr (ptrT [intC j])])] (.fr (tupT [twC (col rs ys j), intC 0])) := fun j =>
    fold_tw rs ys _ _ (fun r => r.cs.getD j 0) goCombine1 (fun r _ => Combine1_ok j r) v3 (by omega) (fun r hr => by
      rcases Nat.lt_or_ge j r.cs.length with h | h
      · have := (v4 r hr).2.1 (r.cs.getD j 0) (getD_mem h); omega
      · rw [List.getD_eq_getElem?_getD, List.getElem?_eq_none (by omega)]; decide) hy'
  have hB : Ok Tryz.prog 97 [rowsC rs, twsC ys, .ex (.func (.func 99) #[] #[])] (.fr (tupT [twC (bsum rs ys), intC 0])) :=
    (fold_tw rs ys _ [] (fun r => r.b) goCombine2 (fun r _ => Combine2_ok r) v3 (by omega) (fun r hr => by have := (v4 r hr).2.2; omega) hy').weak ⟨w_same, w_same, w_fun, trivial⟩
  refine Ok.enter Tryz.func40 rfl _ Tryz.ntmps40 rfl ?_
  intro S w
  (refine St.seq ?_; refine St.regionK (fun K hK => ?_); refine Ops.assign rfl rfl rfl ?_; refine Ops.alloc 0 rfl rfl (by with_reducible first | exact zvFrac) rfl rfl rfl ?_; refine Ops.assign rfl rfl rfl ?_; refine Ops.nil (hK _ _ ?_); clear hK K; refine Fin.then ?_; refine St.seq ?_; refine St.seq ?_; refine St.regionK (fun K hK => ?_); refine Ops.move rfl rfl rfl ?_; refine Ops.move rfl rfl rfl ?_)
  refine Ops.call goLValid hV rfl rfl rfl rfl ?_
  (refine Ops.inot rfl rfl rfl ?_; refine Ops.nil (hK _ _ ?_); clear hK K; refine Fin.then ?_; refine St.condF rfl ?_; refine St.skip ?_; refine Fin.then ?_; refine St.seq ?_; refine St.seq ?_; refine St.regionK (fun K hK => ?_); refine Ops.move rfl rfl rfl ?_; refine Ops.move rfl rfl rfl ?_)
  refine Ops.call gomultipliers hM rfl rfl rfl rfl ?_
  (refine Ops.inot rfl rfl rfl ?_; refine Ops.nil (hK _ _ ?_); clear hK K; refine Fin.then ?_; refine St.condF rfl ?_; refine St.skip ?_; refine Fin.then ?_; refine St.seq ?_; refine St.regionK (fun K hK => ?_); refine Ops.assign rfl rfl rfl ?_; refine Ops.nil (hK _ _ ?_); clear hK K; refine Fin.then ?_; refine St.seq ?_; refine St.seq ?_; refine St.regionK (fun K hK => ?_); refine Ops.move rfl rfl rfl ?_; refine Ops.move rfl rfl rfl ?_; refine Ops.nil (hK _ _ ?_); clear hK K; refine Fin.then ?_; refine St.block ?_)
  refine St.nilRow 9 1 38 3 rfl rfl rfl ?_
  skip
  refine St.loop (α := Nat) (fun i => i ≤ n)
    (fun i => [(1, .ct (rowsC rs)), (2, .ct (twsC ys)), (7, .own 0), (9, .own 1), (25, .ct (intC n)), (26, .ct (intC i))])
    (fun i => [(1, .row 38 3 (frs (cols rs ys i))), (0, .box 38 [.ex (.bool false), .ex (.slice none 0 0), .ex (.slice none 0 0)])]) (fun i => n - i) 0 (Nat.zero_le _) (by exact Entails.of rfl ⟨rfl, rfl, rfl, rfl, rfl, rfl, trivial⟩) ?_
  intro i hi
  dsimp only at hi ⊢
  (refine St.seq ?_; refine St.regionK (fun K hK => ?_); refine Ops.ibin ilss rfl rfl rfl rfl ?_; refine Ops.nil (hK _ _ ?_); clear hK K; refine Fin.then ?_; refine St.seq ?_)
  refine St.condP rfl (fun h => ?_) (fun h => ?_)
  · (refine St.skip ?_; refine Fin.then ?_; refine St.seq ?_; refine St.block ?_; refine St.seq ?_; refine St.regionK (fun K hK => ?_); refine Ops.move rfl rfl rfl ?_; refine Ops.alloc 2 rfl rfl (by with_reducible exact zvInt) rfl rfl rfl ?_; refine Ops.st1O rfl rfl rfl rfl rfl (by with_reducible exact zInt) ?_; refine Ops.nil (hK _ _ ?_); clear hK K; refine Fin.then ?_; refine St.seq ?_; refine St.regionK (fun K hK => ?_); refine Ops.move rfl rfl rfl ?_; refine Ops.move rfl rfl rfl ?_)
    refine Ops.freeze 2 _ rfl rfl noBor_sub ?_
    refine Ops.makeFunc rfl rfl rfl ?_
    refine Ops.call gofold (hF i) rfl rfl rfl rfl ?_
    (refine Ops.move rfl rfl rfl ?_; refine Ops.extract rfl rfl rfl rfl ?_; refine Ops.extract rfl rfl rfl rfl ?_; refine Ops.alloc 2 rfl rfl (by with_reducible first | exact zvFrac) rfl rfl rfl ?_; refine Ops.stWN 3 rfl rfl rfl rfl rfl (by with_reducible exact szFrac) rfl rfl ?_; refine Ops.assign rfl rfl rfl ?_; refine Ops.nil (hK _ _ ?_); clear hK K; refine Fin.then ?_; refine St.seq ?_; refine St.seq ?_; refine St.regionK (fun K hK => ?_); refine Ops.move rfl rfl rfl ?_; refine Ops.ibin ineq rfl rfl rfl rfl ?_; refine Ops.nil (hK _ _ ?_); clear hK K; refine Fin.then ?_; refine St.condF rfl ?_; refine St.skip ?_; refine Fin.then ?_; refine St.regionK (fun K hK => ?_); refine Ops.move rfl rfl rfl ?_; refine Ops.ldNO (n := 3) rfl rfl rfl rfl rfl (by with_reducible exact lFrac) rfl ?_)
    refine Ops.litN (n := 3) rfl rfl (by with_reducible exact sFracs) rfl rfl (by decide) rfl ?_
    refine Ops.append1 i (frs (cols rs ys (i + 1))) rfl rfl rfl rfl (by with_reducible exact sFracs) (by rw [frs_len]; simp [cols]) rfl (by omega) (by omega) (by unfold cols; rw [List.range_succ, List.map_append]; exact frs_snoc _ _) rfl ?_
    (refine Ops.assign rfl rfl rfl ?_; refine Ops.nil (hK _ _ ?_); clear hK K; refine Fin.then ?_; refine St.regionK (fun K hK => ?_); refine Ops.ibin (iadd (by omega) (by omega)) rfl rfl rfl rfl ?_; refine Ops.move rfl rfl rfl ?_; refine Ops.nil (hK _ _ ?_); clear hK K; refine Fin.thenN ?_)
    refine Fin.dropB 2 ?_
    refine Fin.next (i + 1) (by omega) (by omega) (by exact Entails.of rfl ⟨rfl, rfl, rfl, rfl, rfl, by simp only [Int.natCast_add]; rfl, trivial⟩)
  · have hi' : i = n := by omega
    subst hi'
    refine St.freeze 1 _ rfl (frs_frozen _ _) noBor_sub ?_
    (refine St.exit ?_; refine Fin.then ?_; refine St.seq ?_; refine St.regionK (fun K hK => ?_); refine Ops.move rfl rfl rfl ?_; refine Ops.move rfl rfl rfl ?_)
    refine Ops.call gofold hB rfl rfl rfl rfl ?_
    (refine Ops.move rfl rfl rfl ?_; refine Ops.extract rfl rfl rfl rfl ?_; refine Ops.extract rfl rfl rfl rfl ?_; refine Ops.alloc 1 rfl rfl (by with_reducible first | exact zvFrac) rfl rfl rfl ?_; refine Ops.stWN 3 rfl rfl rfl rfl rfl (by with_reducible exact szFrac) rfl rfl ?_; refine Ops.assign rfl rfl rfl ?_; refine Ops.nil (hK _ _ ?_); clear hK K; refine Fin.then ?_; refine St.seq ?_; refine St.seq ?_; refine St.regionK (fun K hK => ?_); refine Ops.move rfl rfl rfl ?_; refine Ops.ibin ineq rfl rfl rfl rfl ?_; refine Ops.nil (hK _ _ ?_); clear hK K; refine Fin.then ?_; refine St.condF rfl ?_; refine St.skip ?_; refine Fin.then ?_; refine St.seq ?_)
    refine St.drawK (by with_reducible exact mixed) 3 (.p 0 (.p 2 (.f 1 (.a 3 (.p 4 .done))))) (by kernel_rfl) (fun K hK => ?_)
    (refine Ops.move rfl rfl rfl ?_; refine Ops.assign rfl rfl rfl ?_; refine Ops.ldNO (n := 3) rfl rfl rfl rfl rfl (by with_reducible exact lFrac) rfl ?_; refine Ops.stWN 3 rfl rfl rfl rfl rfl (by with_reducible exact szFrac) rfl rfl ?_; refine Ops.assign rfl rfl rfl ?_; refine Ops.nil (hK _ _ ?_); clear hK K; refine Fin.then ?_; refine St.ret ?_)
    refine Fin.ret [_, _, _] rfl (AllRes.tmp rfl (AllRes.cellN (n := 3) rfl rfl (by with_reducible exact lFrac) rfl (AllRes.tmp rfl AllRes.nil))) rfl rfl
theorem goCombine : InGo Tryz.prog 40 := InGo.of Tryz.func40 (by kernel_rfl) (by kernel_rfl)
theorem less_tw (a b : Int) (ha : Tb a) (hb : Tb b) : Ok Tryz.prog 101 [twC a, twC b] (boolC (decide (a < b))) := by
  refine Ok.enter Tryz.func101 rfl _ Tryz.ntmps101 rfl ?_
  intro S w
  (refine St.seq ?_; refine St.regionK (fun K hK => ?_); refine Ops.boxN 0 rfl rfl rfl rfl rfl rfl rfl ?_; refine Ops.boxN 1 rfl rfl rfl rfl rfl rfl rfl ?_; refine Ops.assign rfl rfl rfl ?_; refine Ops.nil (hK _ _ ?_); clear hK K; refine Fin.then ?_; refine St.seq ?_; refine St.regionK (fun K hK => ?_); refine Ops.ldNO (n := 3) rfl rfl rfl rfl rfl (by with_reducible exact lFrac) rfl ?_; refine Ops.ldNO (n := 3) rfl rfl rfl rfl rfl (by with_reducible exact lFrac) rfl ?_)
  refine Ops.call goFCompare (Compare_tw a b ha hb) rfl rfl rfl rfl ?_
  (refine Ops.move rfl rfl rfl ?_; refine Ops.extract rfl rfl rfl rfl ?_; refine Ops.extract rfl rfl rfl rfl ?_; refine Ops.assign rfl rfl rfl ?_; refine Ops.assign rfl rfl rfl ?_; refine Ops.nil (hK _ _ ?_); clear hK K; refine Fin.then ?_; refine St.seq ?_; refine St.regionK (fun K hK => ?_); refine Ops.move rfl rfl rfl ?_; refine Ops.ibin ilss rfl rfl rfl rfl ?_; refine Ops.assign rfl rfl rfl ?_; refine Ops.nil (hK _ _ ?_); clear hK K; refine Fin.then ?_; refine St.ret ?_)
  refine Fin.ret [_] rfl (AllRes.tmp rfl AllRes.nil) (by rw [show decide (a < b) = decide (cmpI a b < 0) by rw [decide_eq_decide, cmpI_neg]]; rfl) rfl
theorem goless : InGo Tryz.prog 101 := InGo.of Tryz.func101 (by kernel_rfl) (by kernel_rfl)
def covB (os c : List Int) : Bool := decide (c.length ≤ os.length) && (List.range os.length).all fun j => decide (12 * c.getD j 0 ≤ os.getD j 0)
set_option maxHeartbeats 4000000 in
theorem covers_tw (os c : List Int) (hl : os.length ≤ 64) (hlc : c.length ≤ 64) (ho : ∀ y ∈ os, Tb y) (hc : ∀ y ∈ c, y.natAbs ≤ 9007199254740992) : Ok Tryz.prog 100 [twsC os, intsC c] (boolC (covB os c)) := by
  refine Ok.enter Tryz.func100 rfl _ Tryz.ntmps100 rfl ?_
  intro S w
  (refine St.seq ?_; refine St.regionK (fun K hK => ?_); refine Ops.assign rfl rfl rfl ?_; refine Ops.nil (hK _ _ ?_); clear hK K; refine Fin.then ?_; refine St.seq ?_; refine St.seq ?_; refine St.regionK (fun K hK => ?_); refine Ops.move rfl rfl rfl ?_; refine Ops.lenF rfl rfl (by with_reducible first | exact sNat.und | exact sInts.und) (List.length_map ..) rfl ?_; refine Ops.move rfl rfl rfl ?_; refine Ops.lenF rfl rfl (by with_reducible first | exact sFracs.und | exact sRows.und) (List.length_map ..) rfl ?_; refine Ops.ibin igtr rfl rfl rfl rfl ?_; refine Ops.nil (hK _ _ ?_); clear hK K; refine Fin.then ?_)
  refine St.condP rfl (fun h => ?_) (fun h => ?_)
  · (refine St.seq ?_; refine St.regionK (fun K hK => ?_); refine Ops.assign rfl rfl rfl ?_; refine Ops.nil (hK _ _ ?_); clear hK K; refine Fin.then ?_; refine St.ret ?_; refine Fin.thenRet ?_)
    refine Fin.ret [_] rfl (AllRes.tmp rfl AllRes.nil) (by unfold covB; rw [decide_eq_false (show ¬ c.length ≤ os.length by omega)]; rfl) rfl
  have hle : c.length ≤ os.length := by omega
  clear h
  (refine St.skip ?_; refine Fin.then ?_; refine St.seq ?_; refine St.seq ?_; refine St.regionK (fun K hK => ?_); refine Ops.move rfl rfl rfl ?_; refine Ops.lenF rfl rfl (by with_reducible first | exact sFracs.und | exact sRows.und) (List.length_map ..) rfl ?_; refine Ops.move rfl rfl rfl ?_; refine Ops.nil (hK _ _ ?_); clear hK K; refine Fin.then ?_; refine St.block ?_)
  refine St.loop (α := Nat) (fun i => i ≤ os.length ∧ ∀ j, j < i → 12 * c.getD j 0 ≤ os.getD j 0)
    (fun i => [(1, .ct (intsC c)), (15, .ct (twsC os)), (16, .ct (intC os.length)), (17, .ct (intC i))]) (fun _ => []) (fun i => os.length - i) 0 ⟨Nat.zero_le _, fun j h => absurd h (Nat.not_lt_zero j)⟩ (by exact Entails.of rfl ⟨rfl, rfl, rfl, rfl, trivial⟩) ?_
  intro i ⟨hi, hj⟩
  dsimp only at hi hj ⊢
  (refine St.seq ?_; refine St.regionK (fun K hK => ?_); refine Ops.ibin ilss rfl rfl rfl rfl ?_; refine Ops.nil (hK _ _ ?_); clear hK K; refine Fin.then ?_; refine St.seq ?_)
  refine St.condP rfl (fun h => ?_) (fun h => ?_)
  · have e2 : (i : Int).toNat = i := Int.toNat_natCast i
    have hlt : i < os.length := by omega
    have b0 := ho (os.getD i 0) (getD_mem hlt)
    have b1 : (c.getD i 0).natAbs ≤ 9007199254740992 := by
      rcases Nat.lt_or_ge i c.length with h | h
      · exact hc _ (getD_mem h)
      · rw [List.getD_eq_getElem?_getD, List.getElem?_eq_none (by omega)]; decide
    have hbad : 12 * c.getD i 0 > os.getD i 0 → covB os c = false := fun hgt => by
      unfold covB
      rw [List.all_eq_false.mpr ⟨i, List.mem_range.mpr hlt, by simp only [decide_eq_true_eq]; omega⟩, Bool.and_false]
    have hgood : ¬ (12 * c.getD i 0 > os.getD i 0) → ∀ j, j < i + 1 → 12 * c.getD j 0 ≤ os.getD j 0 := fun hng j hj' => by
      rcases Nat.lt_or_ge j i with h3 | h3
      · exact hj j h3
      · have : j = i := by omega
        rw [this]; omega
    (refine St.skip ?_; refine Fin.then ?_; refine St.seq ?_; refine St.block ?_; refine St.seq ?_; refine St.regionK (fun K hK => ?_); refine Ops.move rfl rfl rfl ?_; refine Ops.idxF rfl rfl rfl (by with_reducible exact sFracs) (by omega) (tws_at (by omega) (by omega)) rfl ?_; refine Ops.ldNF (n := 3) rfl rfl rfl (by with_reducible exact lFrac) rfl rfl ?_; refine Ops.alloc 0 rfl rfl (by with_reducible first | exact zvFrac) rfl rfl rfl ?_; refine Ops.assign rfl rfl rfl ?_; refine Ops.stWN 3 rfl rfl rfl rfl rfl (by with_reducible exact szFrac) rfl rfl ?_; refine Ops.nil (hK _ _ ?_); clear hK K; refine Fin.then ?_; refine St.seq ?_; refine St.regionK (fun K hK => ?_); refine Ops.assign rfl rfl rfl ?_; refine Ops.nil (hK _ _ ?_); clear hK K; refine Fin.then ?_; refine St.seq ?_; refine St.seq ?_; refine St.regionK (fun K hK => ?_); refine Ops.move rfl rfl rfl ?_; refine Ops.move rfl rfl rfl ?_; refine Ops.lenF rfl rfl (by with_reducible first | exact sNat.und | exact sInts.und) (List.length_map ..) rfl ?_; refine Ops.ibin ilss rfl rfl rfl rfl ?_; refine Ops.nil (hK _ _ ?_); clear hK K; refine Fin.then ?_)
    rw [e2]
    skip
    refine St.condP rfl (fun h3 => ?_) (fun h3 => ?_)
    · (refine St.regionK (fun K hK => ?_); refine Ops.move rfl rfl rfl ?_; refine Ops.move rfl rfl rfl ?_; refine Ops.idxF rfl rfl rfl (by with_reducible first | exact sNat | exact sInts) (by omega) (ints_at (by omega) (by omega)) rfl ?_; refine Ops.ld1F rfl rfl rfl (by with_reducible first | exact lInt | exact lNat | exact lBool | exact lInts) rfl ?_; refine Ops.assign rfl rfl rfl ?_; refine Ops.nil (hK _ _ ?_); clear hK K; refine Fin.then ?_; refine St.seq ?_; refine St.regionK (fun K hK => ?_); refine Ops.move rfl rfl rfl ?_)
      rw [e2]
      skip
      refine Ops.call goFFrom (From_tw (c.getD i 0) (by omega) (by omega)) rfl rfl rfl rfl ?_
      (refine Ops.move rfl rfl rfl ?_; refine Ops.extract rfl rfl rfl rfl ?_; refine Ops.extract rfl rfl rfl rfl ?_; refine Ops.alloc 1 rfl rfl (by with_reducible first | exact zvFrac) rfl rfl rfl ?_; refine Ops.stWN 3 rfl rfl rfl rfl rfl (by with_reducible exact szFrac) rfl rfl ?_; refine Ops.assign rfl rfl rfl ?_; refine Ops.nil (hK _ _ ?_); clear hK K; refine Fin.then ?_; refine St.seq ?_; refine St.regionK (fun K hK => ?_); refine Ops.ldNO (n := 3) rfl rfl rfl rfl rfl (by with_reducible exact lFrac) rfl ?_; refine Ops.ldNO (n := 3) rfl rfl rfl rfl rfl (by with_reducible exact lFrac) rfl ?_)
      refine Ops.call goless (less_tw (os.getD i 0) (12 * c.getD i 0) b0 (by unfold Tb; omega)) rfl rfl rfl rfl ?_
      (refine Ops.nil (hK _ _ ?_); clear hK K; refine Fin.then ?_)
      refine St.condP rfl (fun h4 => ?_) (fun h4 => ?_)
      · (refine St.seq ?_; refine St.regionK (fun K hK => ?_); refine Ops.assign rfl rfl rfl ?_; refine Ops.nil (hK _ _ ?_); clear hK K; refine Fin.then ?_; refine St.ret ?_; refine Fin.blockRet ?_; refine Fin.thenRet ?_; refine Fin.thenRet ?_; refine Fin.blockRet ?_; refine Fin.thenRet ?_)
        refine Fin.ret [_] rfl (AllRes.tmp rfl AllRes.nil) (by rw [hbad (by omega)]; rfl) rfl
      · (refine St.skip ?_; refine Fin.then ?_; refine St.regionK (fun K hK => ?_); refine Ops.ibin (iadd (by omega) (by omega)) rfl rfl rfl rfl ?_; refine Ops.move rfl rfl rfl ?_; refine Ops.nil (hK _ _ ?_); clear hK K; refine Fin.thenN ?_)
        refine Fin.dropB 1 (Fin.dropB 0 ?_)
        refine Fin.next (i + 1) (by omega) ⟨by omega, hgood (by omega)⟩ (by exact Entails.of rfl ⟨rfl, rfl, rfl, by simp only [Int.natCast_add]; rfl, trivial⟩)
    · have ec : c.getD i 0 = 0 := by rw [List.getD_eq_getElem?_getD, List.getElem?_eq_none (by omega)]; rfl
      (refine St.skip ?_; refine Fin.then ?_; refine St.seq ?_; refine St.regionK (fun K hK => ?_); refine Ops.move rfl rfl rfl ?_)
      refine Ops.call goFFrom (From_tw 0 (by omega) (by omega)) rfl rfl rfl rfl ?_
      (refine Ops.move rfl rfl rfl ?_; refine Ops.extract rfl rfl rfl rfl ?_; refine Ops.extract rfl rfl rfl rfl ?_; refine Ops.alloc 1 rfl rfl (by with_reducible first | exact zvFrac) rfl rfl rfl ?_; refine Ops.stWN 3 rfl rfl rfl rfl rfl (by with_reducible exact szFrac) rfl rfl ?_; refine Ops.assign rfl rfl rfl ?_; refine Ops.nil (hK _ _ ?_); clear hK K; refine Fin.then ?_; refine St.seq ?_; refine St.regionK (fun K hK => ?_); refine Ops.ldNO (n := 3) rfl rfl rfl rfl rfl (by with_reducible exact lFrac) rfl ?_; refine Ops.ldNO (n := 3) rfl rfl rfl rfl rfl (by with_reducible exact lFrac) rfl ?_)
      refine Ops.call goless (less_tw (os.getD i 0) (12 * 0) b0 (by unfold Tb; omega)) rfl rfl rfl rfl ?_
      (refine Ops.nil (hK _ _ ?_); clear hK K; refine Fin.then ?_)
      refine St.condP rfl (fun h4 => ?_) (fun h4 => ?_)
      · (refine St.seq ?_; refine St.regionK (fun K hK => ?_); refine Ops.assign rfl rfl rfl ?_; refine Ops.nil (hK _ _ ?_); clear hK K; refine Fin.then ?_; refine St.ret ?_; refine Fin.blockRet ?_; refine Fin.thenRet ?_; refine Fin.thenRet ?_; refine Fin.blockRet ?_; refine Fin.thenRet ?_)
        refine Fin.ret [_] rfl (AllRes.tmp rfl AllRes.nil) (by rw [hbad (by omega)]; rfl) rfl
      · (refine St.skip ?_; refine Fin.then ?_; refine St.regionK (fun K hK => ?_); refine Ops.ibin (iadd (by omega) (by omega)) rfl rfl rfl rfl ?_; refine Ops.move rfl rfl rfl ?_; refine Ops.nil (hK _ _ ?_); clear hK K; refine Fin.thenN ?_)
        refine Fin.dropB 1 (Fin.dropB 0 ?_)
        refine Fin.next (i + 1) (by omega) ⟨by omega, hgood (by omega)⟩ (by exact Entails.of rfl ⟨rfl, rfl, rfl, by simp only [Int.natCast_add]; rfl, trivial⟩)
  · have hi' : i = os.length := by omega
    (refine St.exit ?_; refine Fin.then ?_; refine St.seq ?_; refine St.regionK (fun K hK => ?_); refine Ops.assign rfl rfl rfl ?_; refine Ops.nil (hK _ _ ?_); clear hK K; refine Fin.then ?_; refine St.ret ?_)
    refine Fin.ret [_] rfl (AllRes.tmp rfl AllRes.nil) (by
      unfold covB
      rw [decide_eq_true hle, List.all_eq_true.mpr (fun j hj2 => by have := hj j (by have := List.mem_range.mp hj2; omega); simpa using this)]; rfl) rfl
theorem gocovers : InGo Tryz.prog 100 := InGo.of Tryz.func100 (by kernel_rfl) (by kernel_rfl)
end Go.Proofs.YtdhmbgogmoaofaaGreat
namespace Go.Proofs.YtdhmbgogmoaofaaGreat
open Go.Own Go.Limbs
attribute [local irreducible] St Ops Go.Own.Fin Ok
theorem Tb.of {m : Int} (h : m.natAbs ≤ 576460752303423488000) : Tb m := by unfold Tb; omega
theorem col_tb {n : Nat} {rs : List Rw} {ys : List Int} (hv : validR n rs = true) (hl : ys.length = rs.length) (hy : ∀ y ∈ ys, 0 ≤ y ∧ y ≤ 1000) (j : Nat) : (col rs ys j).natAbs ≤ 576460752303423488000 := by
  obtain ⟨v1, v2, v3, v4⟩ := validR_spec hv
  refine dot_bd (by omega) (fun y hy' => ?_) (fun y h => by have := hy y h; omega)
  obtain ⟨r, hr, rfl⟩ := List.mem_map.mp hy'
  rcases Nat.lt_or_ge j r.cs.length with h | h
  · have := (v4 r hr).2.1 (r.cs.getD j 0) (getD_mem h); omega
  · rw [List.getD_eq_getElem?_getD, List.getElem?_eq_none (by omega)]; decide
theorem bsum_tb {n : Nat} {rs : List Rw} {ys : List Int} (hv : validR n rs = true) (hl : ys.length = rs.length) (hy : ∀ y ∈ ys, 0 ≤ y ∧ y ≤ 1000) : (bsum rs ys).natAbs ≤ 576460752303423488000 := by
  obtain ⟨v1, v2, v3, v4⟩ := validR_spec hv
  refine dot_bd (by omega) (fun y hy' => ?_) (fun y h => by have := hy y h; omega)
  obtain ⟨r, hr, rfl⟩ := List.mem_map.mp hy'
  have := (v4 r hr).2.2; omega
theorem covers_cols {n : Nat} {rs : List Rw} {ys : List Int} (hv : validR n rs = true) (hl : ys.length = rs.length) (hy : ∀ y ∈ ys, 0 ≤ y ∧ y ≤ 1000) (c : List Int) (hlc : c.length ≤ 64) (hc : ∀ y ∈ c, y.natAbs ≤ 9007199254740992) : Ok Tryz.prog 100 [twsC (cols rs ys n), intsC c] (boolC (covB (cols rs ys n) c)) := by
  obtain ⟨v1, v2, v3, v4⟩ := validR_spec hv
  refine covers_tw _ c (by simp [cols]; omega) hlc (fun y hy' => ?_) hc
  obtain ⟨j, _, rfl⟩ := List.mem_map.mp hy'
  exact Tb.of (col_tb hv hl hy j)
set_option maxHeartbeats 4000000 in
theorem Bounds_tw (n : Nat) (rs : List Rw) (c ys : List Int) (most : Int) (hv : validR n rs = true) (hl : ys.length = rs.length) (hy : ∀ y ∈ ys, 0 ≤ y ∧ y ≤ 1000) (hlc : c.length ≤ 64) (hc : ∀ y ∈ c, y.natAbs ≤ 9007199254740992) (hm : Tb most) :
    Ok Tryz.prog 41 [intC n, rowsC rs, intsC c, twsC ys, twC most] (boolC (covB (cols rs ys n) c && !decide (most < bsum rs ys))) := by
  have h1 := Combine_tw n rs ys hv hl hy
  have h2 := covers_cols hv hl hy c hlc hc
  have h3 := less_tw most (bsum rs ys) hm (Tb.of (bsum_tb hv hl hy))
  generalize cols rs ys n = os at *
  generalize bsum rs ys = bs at *
  refine Ok.enter Tryz.func41 rfl _ Tryz.ntmps41 rfl ?_
  intro S w
  (refine St.seq ?_; refine St.regionK (fun K hK => ?_); refine Ops.boxN 0 rfl rfl rfl rfl rfl rfl rfl ?_; refine Ops.assign rfl rfl rfl ?_; refine Ops.nil (hK _ _ ?_); clear hK K; refine Fin.then ?_; refine St.seq ?_; refine St.regionK (fun K hK => ?_); refine Ops.move rfl rfl rfl ?_; refine Ops.move rfl rfl rfl ?_; refine Ops.move rfl rfl rfl ?_)
  refine Ops.call goCombine h1 rfl rfl rfl rfl ?_
  (refine Ops.move rfl rfl rfl ?_; refine Ops.extract rfl rfl rfl rfl ?_; refine Ops.extract rfl rfl rfl rfl ?_; refine Ops.extract rfl rfl rfl rfl ?_; refine Ops.alloc 1 rfl rfl (by with_reducible first | exact zvFrac) rfl rfl rfl ?_; refine Ops.assign rfl rfl rfl ?_; refine Ops.stWN 3 rfl rfl rfl rfl rfl (by with_reducible exact szFrac) rfl rfl ?_; refine Ops.assign rfl rfl rfl ?_; refine Ops.nil (hK _ _ ?_); clear hK K; refine Fin.then ?_; refine St.seq ?_; refine St.regionK (fun K hK => ?_); refine Ops.move rfl rfl rfl ?_; refine Ops.ibin ieql rfl rfl rfl rfl ?_; refine Ops.move rfl rfl rfl ?_; refine Ops.ldNO (n := 3) rfl rfl rfl rfl rfl (by with_reducible exact lFrac) rfl ?_)
  refine Ops.call goFValid (Valid_tw most hm) rfl rfl rfl rfl ?_
  (refine Ops.pickT rfl rfl rfl rfl ?_; refine Ops.move rfl rfl rfl ?_; refine Ops.move rfl rfl rfl ?_; refine Ops.move rfl rfl rfl ?_)
  refine Ops.call gocovers h2 rfl rfl rfl rfl ?_
  (refine Ops.pickT rfl rfl rfl rfl ?_; refine Ops.move rfl rfl rfl ?_)
  refine Ops.split 33 rfl (fun h => ?_) (fun h => ?_)
  · (refine Ops.ldNO (n := 3) rfl rfl rfl rfl rfl (by with_reducible exact lFrac) rfl ?_; refine Ops.ldNO (n := 3) rfl rfl rfl rfl rfl (by with_reducible exact lFrac) rfl ?_)
    refine Ops.call goless h3 rfl rfl rfl rfl ?_
    (refine Ops.inot rfl rfl rfl ?_; refine Ops.pickT rfl rfl rfl rfl ?_; refine Ops.assign rfl rfl rfl ?_; refine Ops.nil (hK _ _ ?_); clear hK K; refine Fin.then ?_; refine St.ret ?_)
    refine Fin.ret [_] rfl (AllRes.tmp rfl AllRes.nil) (by rw [h]; rfl) rfl
  · (refine Ops.skip rfl rfl rfl ?_; refine Ops.skip rfl rfl rfl ?_; refine Ops.skip rfl rfl rfl ?_; refine Ops.skip rfl rfl rfl ?_; refine Ops.pickF rfl rfl rfl rfl ?_; refine Ops.assign rfl rfl rfl ?_; refine Ops.nil (hK _ _ ?_); clear hK K; refine Fin.then ?_; refine St.ret ?_)
    refine Fin.ret [_] rfl (AllRes.tmp rfl AllRes.nil) (by rw [h]; rfl) rfl
theorem goBounds : InGo Tryz.prog 41 := InGo.of Tryz.func41 (by kernel_rfl) (by kernel_rfl)
set_option maxHeartbeats 4000000 in
theorem Refutes_tw (n : Nat) (rs : List Rw) (ys : List Int) (hv : validR n rs = true) (hl : ys.length = rs.length) (hy : ∀ y ∈ ys, 0 ≤ y ∧ y ≤ 1000) :
    Ok Tryz.prog 49 [intC n, rowsC rs, twsC ys] (boolC (decide (bsum rs ys < 0) && covB (cols rs ys n) [])) := by
  have h1 := Combine_tw n rs ys hv hl hy
  have h2 := (covers_cols hv hl hy [] (by simp) (fun y h => by cases h)).weak (As' := [_, .ex (.slice none 0 0)]) ⟨w_same, w_nil, trivial⟩
  have h3 := tf_neg (bsum rs ys)
  generalize cols rs ys n = os at *
  generalize bsum rs ys = bs at *
  refine Ok.enter Tryz.func49 rfl _ Tryz.ntmps49 rfl ?_
  intro S w
  (refine St.seq ?_; refine St.regionK (fun K hK => ?_); refine Ops.assign rfl rfl rfl ?_; refine Ops.nil (hK _ _ ?_); clear hK K; refine Fin.then ?_; refine St.seq ?_; refine St.regionK (fun K hK => ?_); refine Ops.move rfl rfl rfl ?_; refine Ops.move rfl rfl rfl ?_; refine Ops.move rfl rfl rfl ?_)
  refine Ops.call goCombine h1 rfl rfl rfl rfl ?_
  (refine Ops.move rfl rfl rfl ?_; refine Ops.extract rfl rfl rfl rfl ?_; refine Ops.extract rfl rfl rfl rfl ?_; refine Ops.extract rfl rfl rfl rfl ?_; refine Ops.alloc 0 rfl rfl (by with_reducible first | exact zvFrac) rfl rfl rfl ?_; refine Ops.assign rfl rfl rfl ?_; refine Ops.stWN 3 rfl rfl rfl rfl rfl (by with_reducible exact szFrac) rfl rfl ?_; refine Ops.assign rfl rfl rfl ?_; refine Ops.nil (hK _ _ ?_); clear hK K; refine Fin.then ?_; refine St.seq ?_; refine St.regionK (fun K hK => ?_); refine Ops.move rfl rfl rfl ?_; refine Ops.ibin ieql rfl rfl rfl rfl ?_; refine Ops.move rfl rfl rfl ?_; refine Ops.fldO rfl rfl rfl (by with_reducible first | exact fF0 | exact fF1 | exact fF2 | exact fR0 | exact fR1) rfl ?_; refine Ops.ld1A rfl rfl rfl rfl rfl (by with_reducible first | exact lInt | exact lNat | exact lBool | exact lInts) rfl ?_; refine Ops.pickT rfl rfl rfl rfl ?_; refine Ops.move rfl rfl rfl ?_)
  refine Ops.split 24 rfl (fun h => ?_) (fun h => ?_)
  · (refine Ops.move rfl rfl rfl ?_)
    refine Ops.call gocovers h2 rfl rfl rfl rfl ?_
    (refine Ops.pickT rfl rfl rfl rfl ?_; refine Ops.assign rfl rfl rfl ?_; refine Ops.nil (hK _ _ ?_); clear hK K; refine Fin.then ?_; refine St.ret ?_)
    refine Fin.ret [_] rfl (AllRes.tmp rfl AllRes.nil) (by rw [← h3, h]; rfl) rfl
  · (refine Ops.skip rfl rfl rfl ?_; refine Ops.skip rfl rfl rfl ?_; refine Ops.pickF rfl rfl rfl rfl ?_; refine Ops.assign rfl rfl rfl ?_; refine Ops.nil (hK _ _ ?_); clear hK K; refine Fin.then ?_; refine St.ret ?_)
    refine Fin.ret [_] rfl (AllRes.tmp rfl AllRes.nil) (by rw [← h3, h]; rfl) rfl
theorem goRefutes : InGo Tryz.prog 49 := InGo.of Tryz.func49 (by kernel_rfl) (by kernel_rfl)
set_option maxHeartbeats 4000000 in
theorem Ceiling_tw (n : Nat) (rs : List Rw) (c ys : List Int) (hv : validR n rs = true) (hl : ys.length = rs.length) (hy : ∀ y ∈ ys, 0 ≤ y ∧ y ≤ 1000) (hlc : c.length ≤ 64) (hc : ∀ y ∈ c, y.natAbs ≤ 9007199254740992) (hb : (bsum rs ys).natAbs < 4611686018427387904) :
    Ok Tryz.prog 42 [intC n, rowsC rs, intsC c, twsC ys] (.fr (tupT [intC (if covB (cols rs ys n) c then bsum rs ys / 12 else 0), boolC (covB (cols rs ys n) c)])) := by
  have h1 := Combine_tw n rs ys hv hl hy
  have h2 := Bounds_tw n rs c ys (bsum rs ys) hv hl hy hlc hc (Tb.of (bsum_tb hv hl hy))
  rw [decide_eq_false (Int.lt_irrefl _), Bool.not_false, Bool.and_true] at h2
  have h3 := Floor_tw (bsum rs ys) hb
  generalize cols rs ys n = os at *
  generalize bsum rs ys = bs at *
  refine Ok.enter Tryz.func42 rfl _ Tryz.ntmps42 rfl ?_
  intro S w
  (refine St.seq ?_; refine St.regionK (fun K hK => ?_); refine Ops.assign rfl rfl rfl ?_; refine Ops.assign rfl rfl rfl ?_; refine Ops.nil (hK _ _ ?_); clear hK K; refine Fin.then ?_; refine St.seq ?_; refine St.regionK (fun K hK => ?_); refine Ops.move rfl rfl rfl ?_; refine Ops.move rfl rfl rfl ?_; refine Ops.move rfl rfl rfl ?_)
  refine Ops.call goCombine h1 rfl rfl rfl rfl ?_
  (refine Ops.move rfl rfl rfl ?_; refine Ops.extract rfl rfl rfl rfl ?_; refine Ops.extract rfl rfl rfl rfl ?_; refine Ops.extract rfl rfl rfl rfl ?_; refine Ops.alloc 0 rfl rfl (by with_reducible first | exact zvFrac) rfl rfl rfl ?_; refine Ops.assign rfl rfl rfl ?_; refine Ops.stWN 3 rfl rfl rfl rfl rfl (by with_reducible exact szFrac) rfl rfl ?_; refine Ops.assign rfl rfl rfl ?_; refine Ops.nil (hK _ _ ?_); clear hK K; refine Fin.then ?_; refine St.seq ?_; refine St.seq ?_; refine St.regionK (fun K hK => ?_); refine Ops.move rfl rfl rfl ?_; refine Ops.ibin ineq rfl rfl rfl rfl ?_; refine Ops.move rfl rfl rfl ?_; refine Ops.move rfl rfl rfl ?_; refine Ops.move rfl rfl rfl ?_; refine Ops.move rfl rfl rfl ?_; refine Ops.move rfl rfl rfl ?_; refine Ops.ldNO (n := 3) rfl rfl rfl rfl rfl (by with_reducible exact lFrac) rfl ?_)
  refine Ops.call goBounds h2 rfl rfl rfl rfl ?_
  (refine Ops.inot rfl rfl rfl ?_; refine Ops.pickF rfl rfl rfl rfl ?_; refine Ops.nil (hK _ _ ?_); clear hK K; refine Fin.then ?_)
  refine St.condB rfl (fun h => ?_) (fun h => ?_)
  · have h' : covB os c = false := by simpa using h
    (refine St.seq ?_; refine St.regionK (fun K hK => ?_); refine Ops.assign rfl rfl rfl ?_; refine Ops.assign rfl rfl rfl ?_; refine Ops.nil (hK _ _ ?_); clear hK K; refine Fin.then ?_; refine St.ret ?_; refine Fin.thenRet ?_)
    refine Fin.ret [_, _] rfl (AllRes.tmp rfl (AllRes.tmp rfl AllRes.nil)) (by rw [h']; rfl) rfl
  · have h' : covB os c = true := by simpa using h
    (refine St.skip ?_; refine Fin.then ?_; refine St.seq ?_; refine St.regionK (fun K hK => ?_); refine Ops.ldNO (n := 3) rfl rfl rfl rfl rfl (by with_reducible exact lFrac) rfl ?_)
    refine Ops.call goFFloor h3 rfl rfl rfl rfl ?_
    (refine Ops.move rfl rfl rfl ?_; refine Ops.extract rfl rfl rfl rfl ?_; refine Ops.extract rfl rfl rfl rfl ?_; refine Ops.assign rfl rfl rfl ?_; refine Ops.assign rfl rfl rfl ?_; refine Ops.nil (hK _ _ ?_); clear hK K; refine Fin.then ?_; refine St.seq ?_; refine St.seq ?_; refine St.regionK (fun K hK => ?_); refine Ops.move rfl rfl rfl ?_; refine Ops.ibin ineq rfl rfl rfl rfl ?_; refine Ops.nil (hK _ _ ?_); clear hK K; refine Fin.then ?_; refine St.condF rfl ?_; refine St.skip ?_; refine Fin.then ?_; refine St.seq ?_; refine St.regionK (fun K hK => ?_); refine Ops.move rfl rfl rfl ?_; refine Ops.assign rfl rfl rfl ?_; refine Ops.assign rfl rfl rfl ?_; refine Ops.nil (hK _ _ ?_); clear hK K; refine Fin.then ?_; refine St.ret ?_)
    refine Fin.ret [_, _] rfl (AllRes.tmp rfl (AllRes.tmp rfl AllRes.nil)) (by rw [h']; rfl) rfl
theorem goCeiling : InGo Tryz.prog 42 := InGo.of Tryz.func42 (by kernel_rfl) (by kernel_rfl)
def pruned (ys : List Int) : Nat → List Int
  | 0 => []
  | i + 1 => if ys.getD i 0 = 0 then pruned ys i else pruned ys i ++ [(i : Int)]
theorem pruned_len (ys : List Int) (i : Nat) : (pruned ys i).length ≤ i := by
  induction i with
  | zero => simp [pruned]
  | succ i ih => simp only [pruned]; split
                 · omega
                 · simp; omega
set_option maxHeartbeats 4000000 in
theorem Prune_tw (n : Nat) (rs : List Rw) (ys : List Int) (hv : validR n rs = true) (hl : ys.length = rs.length) (hy : ∀ y ∈ ys, 0 ≤ y ∧ y ≤ 1000) : Ok Tryz.prog 51 [intC n, rowsC rs, twsC ys] (intsC (pruned ys ys.length)) := by
  obtain ⟨v1, v2, v3, v4⟩ := validR_spec hv
  have hV := LValid_ok n rs (by omega) (fun r hr => by have := (v4 r hr).1; omega)
  rw [hv] at hV
  have hM := multipliers_tw rs ys hl v3 hy
  refine Ok.enter Tryz.func51 rfl _ Tryz.ntmps51 rfl ?_
  intro S w
  (refine St.seq ?_; refine St.regionK (fun K hK => ?_); refine Ops.assign rfl rfl rfl ?_; refine Ops.nil (hK _ _ ?_); clear hK K; refine Fin.then ?_; refine St.seq ?_; refine St.seq ?_; refine St.regionK (fun K hK => ?_); refine Ops.move rfl rfl rfl ?_; refine Ops.move rfl rfl rfl ?_)
  refine Ops.call goLValid hV rfl rfl rfl rfl ?_
  (refine Ops.inot rfl rfl rfl ?_; refine Ops.move rfl rfl rfl ?_; refine Ops.move rfl rfl rfl ?_; refine Ops.move rfl rfl rfl ?_)
  refine Ops.call gomultipliers hM rfl rfl rfl rfl ?_
  (refine Ops.inot rfl rfl rfl ?_; refine Ops.pickF rfl rfl rfl rfl ?_; refine Ops.nil (hK _ _ ?_); clear hK K; refine Fin.then ?_; refine St.condF rfl ?_; refine St.skip ?_; refine Fin.then ?_; refine St.seq ?_; refine St.regionK (fun K hK => ?_); refine Ops.assign rfl rfl rfl ?_; refine Ops.nil (hK _ _ ?_); clear hK K; refine Fin.then ?_; refine St.seq ?_; refine St.seq ?_; refine St.regionK (fun K hK => ?_); refine Ops.move rfl rfl rfl ?_; refine Ops.lenF rfl rfl (by with_reducible first | exact sFracs.und | exact sRows.und) (List.length_map ..) rfl ?_; refine Ops.move rfl rfl rfl ?_; refine Ops.nil (hK _ _ ?_); clear hK K; refine Fin.then ?_; refine St.block ?_)
  refine St.nilRow 7 0 3 1 rfl rfl rfl ?_
  skip
  refine St.loop (α := Nat) (fun i => i ≤ ys.length)
    (fun i => [(7, .own 0), (20, .ct (twsC ys)), (21, .ct (intC ys.length)), (22, .ct (intC i))]) (fun i => [(0, .row 3 1 (ints (pruned ys i)))]) (fun i => ys.length - i) 0 (Nat.zero_le _) (by exact Entails.of rfl ⟨rfl, rfl, rfl, rfl, trivial⟩) ?_
  intro i hi
  dsimp only at hi ⊢
  (refine St.seq ?_; refine St.regionK (fun K hK => ?_); refine Ops.ibin ilss rfl rfl rfl rfl ?_; refine Ops.nil (hK _ _ ?_); clear hK K; refine Fin.then ?_; refine St.seq ?_)
  refine St.condP rfl (fun h => ?_) (fun h => ?_)
  · have e2 : (i : Int).toNat = i := Int.toNat_natCast i
    have hn := tf_num_zero (ys.getD i 0)
    have hn2 := limbs_len_pos (n := (tf (ys.getD i 0)).num)
    have hpl := pruned_len ys i
    (refine St.skip ?_; refine Fin.then ?_; refine St.seq ?_; refine St.block ?_; refine St.seq ?_; refine St.regionK (fun K hK => ?_); refine Ops.move rfl rfl rfl ?_; refine Ops.idxF rfl rfl rfl (by with_reducible exact sFracs) (by omega) (tws_at (by omega) (by omega)) rfl ?_; refine Ops.ldNF (n := 3) rfl rfl rfl (by with_reducible exact lFrac) rfl rfl ?_; refine Ops.alloc 1 rfl rfl (by with_reducible first | exact zvFrac) rfl rfl rfl ?_; refine Ops.assign rfl rfl rfl ?_; refine Ops.stWN 3 rfl rfl rfl rfl rfl (by with_reducible exact szFrac) rfl rfl ?_; refine Ops.nil (hK _ _ ?_); clear hK K; refine Fin.then ?_; refine St.seq ?_; refine St.regionK (fun K hK => ?_); refine Ops.fldO rfl rfl rfl (by with_reducible first | exact fF0 | exact fF1 | exact fF2 | exact fR0 | exact fR1) rfl ?_; refine Ops.ld1A rfl rfl rfl rfl rfl (by with_reducible first | exact lInt | exact lNat | exact lBool | exact lInts) rfl ?_; refine Ops.lenF rfl rfl (by with_reducible first | exact sNat.und | exact sInts.und) (List.length_map ..) rfl ?_; refine Ops.ibin igtr rfl rfl rfl rfl ?_; refine Ops.nil (hK _ _ ?_); clear hK K; refine Fin.then ?_)
    rw [e2]
    skip
    refine St.condP rfl (fun h2 => ?_) (fun h2 => ?_)
    · have e3 : pruned ys (i + 1) = pruned ys i ++ [(i : Int)] := by simp only [pruned]; rw [if_neg (fun h3 => by have := hn.mpr h3; omega)]
      (refine St.regionK (fun K hK => ?_); refine Ops.move rfl rfl rfl ?_; refine Ops.move rfl rfl rfl ?_)
      refine Ops.lit1 rfl rfl (by with_reducible exact sInts) rfl rfl rfl ?_
      refine Ops.append1 (pruned ys i).length (ints (pruned ys (i + 1))) rfl rfl rfl rfl (by with_reducible exact sInts) (by simp [ints]) rfl (by omega) (by omega) (by rw [e3]; simp [ints]) rfl ?_
      (refine Ops.assign rfl rfl rfl ?_; refine Ops.nil (hK _ _ ?_); clear hK K; refine Fin.then ?_; refine St.regionK (fun K hK => ?_); refine Ops.ibin (iadd (by omega) (by omega)) rfl rfl rfl rfl ?_; refine Ops.move rfl rfl rfl ?_; refine Ops.nil (hK _ _ ?_); clear hK K; refine Fin.thenN ?_)
      refine Fin.dropB 1 ?_
      refine Fin.next (i + 1) (by omega) (by omega) (by exact Entails.of rfl ⟨rfl, rfl, rfl, by simp only [Int.natCast_add]; rfl, trivial⟩)
    · have e3 : pruned ys (i + 1) = pruned ys i := by simp only [pruned]; rw [if_pos (hn.mp (by omega))]
      (refine St.skip ?_; refine Fin.then ?_; refine St.regionK (fun K hK => ?_); refine Ops.ibin (iadd (by omega) (by omega)) rfl rfl rfl rfl ?_; refine Ops.move rfl rfl rfl ?_; refine Ops.nil (hK _ _ ?_); clear hK K; refine Fin.thenN ?_)
      refine Fin.dropB 1 ?_
      refine Fin.next (i + 1) (by omega) (by omega) (by rw [e3]; exact Entails.of rfl ⟨rfl, rfl, rfl, by simp only [Int.natCast_add]; rfl, trivial⟩)
  · have hi' : i = ys.length := by omega
    subst hi'
    refine St.freeze 0 _ rfl (ints_frozen _ _) noBor_sub ?_
    (refine St.exit ?_; refine Fin.then ?_; refine St.seq ?_; refine St.regionK (fun K hK => ?_); refine Ops.move rfl rfl rfl ?_; refine Ops.assign rfl rfl rfl ?_; refine Ops.nil (hK _ _ ?_); clear hK K; refine Fin.then ?_; refine St.ret ?_)
    refine Fin.ret [_] rfl (AllRes.tmp rfl AllRes.nil) rfl rfl
theorem goPrune : InGo Tryz.prog 51 := InGo.of Tryz.func51 (by kernel_rfl) (by kernel_rfl)
end Go.Proofs.YtdhmbgogmoaofaaGreat
namespace Go.Proofs.YtdhmbgogmoaofaaGreat
open Go.Own Go.Limbs
attribute [local irreducible] St Ops Go.Own.Fin Ok
structure SzQ (q : Rat) : Prop where
  n : (limbs (ofQ q).num).length ≤ 64
  d : (limbs (ofQ q).den).length ≤ 64
def colQ (rs : List Rw) (ys : List Fr) (j : Nat) : Rat := vsum (rs.map fun r => r.cs.getD j 0) ys
def bsQ (rs : List Rw) (ys : List Fr) : Rat := vsum (rs.map fun r => r.b) ys
def colsQ (rs : List Rw) (ys : List Fr) (n : Nat) : List Rat := (List.range n).map (colQ rs ys)
abbrev ratsC (qs : List Rat) : CT := .fr (sliceT 3 (qs.map fun q => frCs (ofQ q)))
def rts (qs : List Rat) : List CT := (qs.map fun q => frCs (ofQ q)).flatten
theorem rts_len (qs : List Rat) : (rts qs).length = qs.length * 3 := by
  unfold rts
  rw [flatten_length (k := 3) (fun e he => by obtain ⟨m, _, rfl⟩ := List.mem_map.mp he; rfl)]; simp
theorem rts_snoc (qs : List Rat) (q : Rat) : rts (qs ++ [q]) = rts qs ++ frCs (ofQ q) := by simp [rts]
theorem rts_frozen (e : Nat) (qs : List Rat) : (Ent.row e 3 (rts qs)).frozen (sliceT 3 (qs.map fun q => frCs (ofQ q))) :=
  ⟨_, rfl, fun e he => by obtain ⟨m, _, rfl⟩ := List.mem_map.mp he; rfl, by decide, rfl⟩
theorem rats_at {qs : List Rat} {j : Int} (h0 : 0 ≤ j) (h : j < (qs.length : Int)) : (qs.map fun q => frCs (ofQ q))[j.toNat]? = some (frCs (ofQ (qs.getD j.toNat 0))) := map_at (fun q => frCs (ofQ q)) 0 h0 h
structure Mul (n : Nat) (rs : List Rw) (ys : List Fr) : Prop where
  len : ys.length = rs.length
  vf : ∀ f ∈ ys, VF f
  nn : ∀ f ∈ ys, f.neg = false
  c : ∀ j, j < n → VFit (rs.map fun r => r.cs.getD j 0) ys ∧ SzQ (colQ rs ys j)
  b : VFit (rs.map fun r => r.b) ys ∧ SzQ (bsQ rs ys)
theorem multipliers1_V (f : Fr) (h : VF f) : Ok Tryz.prog 145 [fracC f] (boolC f.neg) := by
  refine Ok.enter Tryz.func145 rfl _ Tryz.ntmps145 rfl ?_
  intro S w
  (refine St.seq ?_; refine St.regionK (fun K hK => ?_); refine Ops.boxN 0 rfl rfl rfl rfl rfl rfl rfl ?_; refine Ops.assign rfl rfl rfl ?_; refine Ops.nil (hK _ _ ?_); clear hK K; refine Fin.then ?_; refine St.seq ?_; refine St.regionK (fun K hK => ?_); refine Ops.ldNO (n := 3) rfl rfl rfl rfl rfl (by with_reducible exact lFrac) rfl ?_)
  refine Ops.call goFValid (FValid_V f h) rfl rfl rfl rfl ?_
  (refine Ops.inot rfl rfl rfl ?_; refine Ops.move rfl rfl rfl ?_; refine Ops.fldO rfl rfl rfl (by with_reducible first | exact fF0 | exact fF1 | exact fF2 | exact fR0 | exact fR1) rfl ?_; refine Ops.ld1A rfl rfl rfl rfl rfl (by with_reducible first | exact lInt | exact lNat | exact lBool | exact lInts) rfl ?_; refine Ops.pickF rfl rfl rfl rfl ?_; refine Ops.assign rfl rfl rfl ?_; refine Ops.nil (hK _ _ ?_); clear hK K; refine Fin.then ?_; refine St.ret ?_)
  refine Fin.ret [_] rfl (AllRes.tmp rfl AllRes.nil) rfl rfl
theorem multipliers_gen {n : Nat} (rs : List Rw) (ys : List Fr) (h : Mul n rs ys) (h64 : rs.length ≤ 64) : Ok Tryz.prog 96 [rowsC rs, fracsC ys] (boolC true) := by
  have hl := h.len
  have hC := ContainsFunc_fracs ys _ (fun f => f.neg) gomultipliers1 (fun f hf => multipliers1_V f (h.vf f hf)) (by omega)
  rw [show ys.any (fun f => f.neg) = false from List.any_eq_false.2 fun f hf => by rw [h.nn f hf]; decide] at hC
  refine Ok.enter Tryz.func96 rfl _ Tryz.ntmps96 rfl ?_
  intro S w
  (refine St.seq ?_; refine St.regionK (fun K hK => ?_); refine Ops.assign rfl rfl rfl ?_; refine Ops.nil (hK _ _ ?_); clear hK K; refine Fin.then ?_; refine St.seq ?_; refine St.regionK (fun K hK => ?_); refine Ops.move rfl rfl rfl ?_; refine Ops.lenF rfl rfl (by with_reducible first | exact sFracs.und | exact sRows.und) (List.length_map ..) rfl ?_; refine Ops.move rfl rfl rfl ?_; refine Ops.lenF rfl rfl (by with_reducible first | exact sFracs.und | exact sRows.und) (List.length_map ..) rfl ?_; refine Ops.ibin ieql rfl rfl rfl rfl ?_; refine Ops.move rfl rfl rfl ?_)
  rw [decide_eq_true (show (ys.length : Int) = rs.length by omega)]
  (refine Ops.move rfl rfl rfl ?_)
  refine Ops.call goContainsFunc_fracs hC rfl rfl rfl rfl ?_
  (refine Ops.inot rfl rfl rfl ?_; refine Ops.pickT rfl rfl rfl rfl ?_; refine Ops.assign rfl rfl rfl ?_; refine Ops.nil (hK _ _ ?_); clear hK K; refine Fin.then ?_; refine St.ret ?_)
  refine Fin.ret [_] rfl (AllRes.tmp rfl AllRes.nil) rfl rfl
set_option maxHeartbeats 4000000 in
theorem fold_gen (rs : List Rw) (ys : List Fr) (f : FuncId) (caps : List CT) (num : Rw → Int) (hgo : InGo Tryz.prog f) (hf : ∀ r ∈ rs, Ok Tryz.prog f ([rowC r] ++ caps) (intC (num r))) (hl : rs.length ≤ 64) (hV : VFit (rs.map num) ys) :
    Ok Tryz.prog 97 [rowsC rs, fracsC ys, .fr (closT f caps)] (.fr (tupT [ratC (vsum (rs.map num) ys), intC 0])) := by
  refine Ok.enter Tryz.func97 rfl _ Tryz.ntmps97 rfl ?_
  intro S w
  (refine St.seq ?_; refine St.regionK (fun K hK => ?_); refine Ops.alloc 0 rfl rfl (by with_reducible first | exact zvFrac) rfl rfl rfl ?_; refine Ops.assign rfl rfl rfl ?_; refine Ops.nil (hK _ _ ?_); clear hK K; refine Fin.then ?_; refine St.seq ?_; refine St.regionK (fun K hK => ?_); refine Ops.assign rfl rfl rfl ?_; refine Ops.nil (hK _ _ ?_); clear hK K; refine Fin.then ?_; refine St.seq ?_; refine St.seq ?_; refine St.regionK (fun K hK => ?_); refine Ops.move rfl rfl rfl ?_; refine Ops.lenF rfl rfl (by with_reducible first | exact sFracs.und | exact sRows.und) (List.length_map ..) rfl ?_; refine Ops.move rfl rfl rfl ?_; refine Ops.nil (hK _ _ ?_); clear hK K; refine Fin.then ?_; refine St.block ?_)
  refine St.nilRow 8 1 3 1 rfl rfl rfl ?_
  skip
  refine St.loop (α := Nat) (fun i => i ≤ rs.length)
    (fun i => [(1, .ct (fracsC ys)), (2, .ct (.fr (closT f caps))), (6, .own 0), (8, .own 1), (11, .ct (rowsC rs)), (12, .ct (intC rs.length)), (13, .ct (intC i))])
    (fun i => [(1, .row 3 1 (ints ((rs.take i).map num))), (0, .box 38 [.ex (.bool false), .ex (.slice none 0 0), .ex (.slice none 0 0)])]) (fun i => rs.length - i) 0 (Nat.zero_le _) (by exact Entails.of rfl ⟨rfl, rfl, rfl, rfl, rfl, rfl, rfl, trivial⟩) ?_
  intro i hi
  dsimp only at hi ⊢
  (refine St.seq ?_; refine St.regionK (fun K hK => ?_); refine Ops.ibin ilss rfl rfl rfl rfl ?_; refine Ops.nil (hK _ _ ?_); clear hK K; refine Fin.then ?_; refine St.seq ?_)
  refine St.condP rfl (fun h => ?_) (fun h => ?_)
  · have e2 : (i : Int).toNat = i := Int.toNat_natCast i
    have hlt : i < rs.length := by omega
    (refine St.skip ?_; refine Fin.then ?_; refine St.seq ?_; refine St.block ?_; refine St.seq ?_; refine St.regionK (fun K hK => ?_); refine Ops.idxF rfl rfl rfl (by with_reducible exact sRows) (by omega) (rows_at (by omega) (by omega)) rfl ?_; refine Ops.ldNF (n := 2) rfl rfl rfl (by with_reducible exact lRow) rfl rfl ?_; refine Ops.alloc 2 rfl rfl (by with_reducible exact zvRow) rfl rfl rfl ?_; refine Ops.stWN 2 rfl rfl rfl rfl rfl (by with_reducible exact szRow) rfl rfl ?_; refine Ops.nil (hK _ _ ?_); clear hK K; refine Fin.then ?_; refine St.regionK (fun K hK => ?_); refine Ops.move rfl rfl rfl ?_; refine Ops.move rfl rfl rfl ?_; refine Ops.ldNO (n := 2) rfl rfl rfl rfl rfl (by with_reducible exact lRow) rfl ?_)
    rw [e2]
    skip
    refine Ops.callC hgo rfl (hf (rs.getD i rw0) (getD_mem hlt)) rfl rfl rfl rfl ?_
    refine Ops.lit1 rfl rfl (by with_reducible exact sInts) rfl rfl rfl ?_
    refine Ops.append1 i (ints ((rs.take (i + 1)).map num)) rfl rfl rfl rfl (by with_reducible exact sInts) (by simp [ints]; omega) rfl (by omega) (by omega) (by rw [take_map_succ num rw0 hlt]; simp [ints]) rfl ?_
    (refine Ops.assign rfl rfl rfl ?_; refine Ops.nil (hK _ _ ?_); clear hK K; refine Fin.then ?_; refine St.regionK (fun K hK => ?_); refine Ops.ibin (iadd (by omega) (by omega)) rfl rfl rfl rfl ?_; refine Ops.move rfl rfl rfl ?_; refine Ops.nil (hK _ _ ?_); clear hK K; refine Fin.thenN ?_)
    refine Fin.dropB 2 ?_
    refine Fin.next (i + 1) (by omega) (by omega) (by exact Entails.of rfl ⟨rfl, rfl, rfl, rfl, rfl, rfl, by simp only [Int.natCast_add]; rfl, trivial⟩)
  · have hi' : i = rs.length := by omega
    have e : (rs.take i).map num = rs.map num := by rw [hi', List.take_length]
    rw [e]
    refine St.freeze 1 _ rfl (ints_frozen _ _) noBor_sub ?_
    (refine St.exit ?_; refine Fin.then ?_; refine St.seq ?_; refine St.regionK (fun K hK => ?_); refine Ops.move rfl rfl rfl ?_; refine Ops.move rfl rfl rfl ?_)
    refine Ops.call goValue (Value_gen (rs.map num) ys hV) rfl rfl rfl rfl ?_
    (refine Ops.extract rfl rfl rfl rfl ?_; refine Ops.extract rfl rfl rfl rfl ?_; refine Ops.stWN 3 rfl rfl rfl rfl rfl (by with_reducible exact szFrac) rfl rfl ?_; refine Ops.assign rfl rfl rfl ?_; refine Ops.nil (hK _ _ ?_); clear hK K; refine Fin.then ?_; refine St.ret ?_)
    refine Fin.ret [_, _] rfl (AllRes.cellN (n := 3) rfl rfl (by with_reducible exact lFrac) rfl (AllRes.tmp rfl AllRes.nil)) rfl rfl
set_option maxHeartbeats 4000000 in
theorem Combine_gen (n : Nat) (rs : List Rw) (ys : List Fr) (hv : validR n rs = true) (H : Mul n rs ys) :
    Ok Tryz.prog 40 [intC n, rowsC rs, fracsC ys] (.fr (tupT [ratsC (colsQ rs ys n), ratC (bsQ rs ys), intC 0])) := by
  obtain ⟨v1, v2, v3, v4⟩ := validR_spec hv
  have hV := LValid_ok n rs (by omega) (fun r hr => by have := (v4 r hr).1; omega)
  rw [hv] at hV
  have hM := multipliers_gen rs ys H v3
  have hF : ∀ j : Nat, j < n → Ok Tryz.prog 97 [rowsC rs, fracsC ys, .fr (closT 98 [.fr (ptrT [intC j])])] (.fr (tupT [ratC (colQ rs ys j), intC 0])) := fun j hj =>
    fold_gen rs ys _ _ (fun r => r.cs.getD j 0) goCombine1 (fun r _ => Combine1_ok j r) v3 (H.c j hj).1
  have hB : Ok Tryz.prog 97 [rowsC rs, fracsC ys, .ex (.func (.func 99) #[] #[])] (.fr (tupT [ratC (bsQ rs ys), intC 0])) :=
    (fold_gen rs ys _ [] (fun r => r.b) goCombine2 (fun r _ => Combine2_ok r) v3 H.b.1).weak ⟨w_same, w_same, w_fun, trivial⟩
  refine Ok.enter Tryz.func40 rfl _ Tryz.ntmps40 rfl ?_
  intro S w
  (refine St.seq ?_; refine St.regionK (fun K hK => ?_); refine Ops.assign rfl rfl rfl ?_; refine Ops.alloc 0 rfl rfl (by with_reducible first | exact zvFrac) rfl rfl rfl ?_; refine Ops.assign rfl rfl rfl ?_; refine Ops.nil (hK _ _ ?_); clear hK K; refine Fin.then ?_; refine St.seq ?_; refine St.seq ?_; refine St.regionK (fun K hK => ?_); refine Ops.move rfl rfl rfl ?_; refine Ops.move rfl rfl rfl ?_)
  refine Ops.call goLValid hV rfl rfl rfl rfl ?_
  (refine Ops.inot rfl rfl rfl ?_; refine Ops.nil (hK _ _ ?_); clear hK K; refine Fin.then ?_; refine St.condF rfl ?_; refine St.skip ?_; refine Fin.then ?_; refine St.seq ?_; refine St.seq ?_; refine St.regionK (fun K hK => ?_); refine Ops.move rfl rfl rfl ?_; refine Ops.move rfl rfl rfl ?_)
  refine Ops.call gomultipliers hM rfl rfl rfl rfl ?_
  (refine Ops.inot rfl rfl rfl ?_; refine Ops.nil (hK _ _ ?_); clear hK K; refine Fin.then ?_; refine St.condF rfl ?_; refine St.skip ?_; refine Fin.then ?_; refine St.seq ?_; refine St.regionK (fun K hK => ?_); refine Ops.assign rfl rfl rfl ?_; refine Ops.nil (hK _ _ ?_); clear hK K; refine Fin.then ?_; refine St.seq ?_; refine St.seq ?_; refine St.regionK (fun K hK => ?_); refine Ops.move rfl rfl rfl ?_; refine Ops.move rfl rfl rfl ?_; refine Ops.nil (hK _ _ ?_); clear hK K; refine Fin.then ?_; refine St.block ?_)
  refine St.nilRow 9 1 38 3 rfl rfl rfl ?_
  skip
  refine St.loop (α := Nat) (fun i => i ≤ n)
    (fun i => [(1, .ct (rowsC rs)), (2, .ct (fracsC ys)), (7, .own 0), (9, .own 1), (25, .ct (intC n)), (26, .ct (intC i))])
    (fun i => [(1, .row 38 3 (rts (colsQ rs ys i))), (0, .box 38 [.ex (.bool false), .ex (.slice none 0 0), .ex (.slice none 0 0)])]) (fun i => n - i) 0 (Nat.zero_le _) (by exact Entails.of rfl ⟨rfl, rfl, rfl, rfl, rfl, rfl, trivial⟩) ?_
  intro i hi
  dsimp only at hi ⊢
  (refine St.seq ?_; refine St.regionK (fun K hK => ?_); refine Ops.ibin ilss rfl rfl rfl rfl ?_; refine Ops.nil (hK _ _ ?_); clear hK K; refine Fin.then ?_; refine St.seq ?_)
  refine St.condP rfl (fun h => ?_) (fun h => ?_)
  · (refine St.skip ?_; refine Fin.then ?_; refine St.seq ?_; refine St.block ?_; refine St.seq ?_; refine St.regionK (fun K hK => ?_); refine Ops.move rfl rfl rfl ?_; refine Ops.alloc 2 rfl rfl (by with_reducible exact zvInt) rfl rfl rfl ?_; refine Ops.st1O rfl rfl rfl rfl rfl (by with_reducible exact zInt) ?_; refine Ops.nil (hK _ _ ?_); clear hK K; refine Fin.then ?_; refine St.seq ?_; refine St.regionK (fun K hK => ?_); refine Ops.move rfl rfl rfl ?_; refine Ops.move rfl rfl rfl ?_)
    refine Ops.freeze 2 _ rfl rfl noBor_sub ?_
    refine Ops.makeFunc rfl rfl rfl ?_
    refine Ops.call gofold (hF i (by omega)) rfl rfl rfl rfl ?_
    (refine Ops.move rfl rfl rfl ?_; refine Ops.extract rfl rfl rfl rfl ?_; refine Ops.extract rfl rfl rfl rfl ?_; refine Ops.alloc 2 rfl rfl (by with_reducible first | exact zvFrac) rfl rfl rfl ?_; refine Ops.stWN 3 rfl rfl rfl rfl rfl (by with_reducible exact szFrac) rfl rfl ?_; refine Ops.assign rfl rfl rfl ?_; refine Ops.nil (hK _ _ ?_); clear hK K; refine Fin.then ?_; refine St.seq ?_; refine St.seq ?_; refine St.regionK (fun K hK => ?_); refine Ops.move rfl rfl rfl ?_; refine Ops.ibin ineq rfl rfl rfl rfl ?_; refine Ops.nil (hK _ _ ?_); clear hK K; refine Fin.then ?_; refine St.condF rfl ?_; refine St.skip ?_; refine Fin.then ?_; refine St.regionK (fun K hK => ?_); refine Ops.move rfl rfl rfl ?_; refine Ops.ldNO (n := 3) rfl rfl rfl rfl rfl (by with_reducible exact lFrac) rfl ?_)
    refine Ops.litN (n := 3) rfl rfl (by with_reducible exact sFracs) rfl rfl (by decide) rfl ?_
    refine Ops.append1 i (rts (colsQ rs ys (i + 1))) rfl rfl rfl rfl (by with_reducible exact sFracs) (by rw [rts_len]; simp [colsQ]) rfl (by omega) (by omega) (by unfold colsQ; rw [List.range_succ, List.map_append]; exact rts_snoc _ _) rfl ?_
    (refine Ops.assign rfl rfl rfl ?_; refine Ops.nil (hK _ _ ?_); clear hK K; refine Fin.then ?_; refine St.regionK (fun K hK => ?_); refine Ops.ibin (iadd (by omega) (by omega)) rfl rfl rfl rfl ?_; refine Ops.move rfl rfl rfl ?_; refine Ops.nil (hK _ _ ?_); clear hK K; refine Fin.thenN ?_)
    refine Fin.dropB 2 ?_
    refine Fin.next (i + 1) (by omega) (by omega) (by exact Entails.of rfl ⟨rfl, rfl, rfl, rfl, rfl, by simp only [Int.natCast_add]; rfl, trivial⟩)
  · have hi' : i = n := by omega
    subst hi'
    refine St.freeze 1 _ rfl (rts_frozen _ _) noBor_sub ?_
    (refine St.exit ?_; refine Fin.then ?_; refine St.seq ?_; refine St.regionK (fun K hK => ?_); refine Ops.move rfl rfl rfl ?_; refine Ops.move rfl rfl rfl ?_)
    refine Ops.call gofold hB rfl rfl rfl rfl ?_
    (refine Ops.move rfl rfl rfl ?_; refine Ops.extract rfl rfl rfl rfl ?_; refine Ops.extract rfl rfl rfl rfl ?_; refine Ops.alloc 1 rfl rfl (by with_reducible first | exact zvFrac) rfl rfl rfl ?_; refine Ops.stWN 3 rfl rfl rfl rfl rfl (by with_reducible exact szFrac) rfl rfl ?_; refine Ops.assign rfl rfl rfl ?_; refine Ops.nil (hK _ _ ?_); clear hK K; refine Fin.then ?_; refine St.seq ?_; refine St.seq ?_; refine St.regionK (fun K hK => ?_); refine Ops.move rfl rfl rfl ?_; refine Ops.ibin ineq rfl rfl rfl rfl ?_; refine Ops.nil (hK _ _ ?_); clear hK K; refine Fin.then ?_; refine St.condF rfl ?_; refine St.skip ?_; refine Fin.then ?_; refine St.seq ?_)
    refine St.drawK (by with_reducible exact mixed) 3 (.p 0 (.p 2 (.f 1 (.a 3 (.p 4 .done))))) (by kernel_rfl) (fun K hK => ?_)
    (refine Ops.move rfl rfl rfl ?_; refine Ops.assign rfl rfl rfl ?_; refine Ops.ldNO (n := 3) rfl rfl rfl rfl rfl (by with_reducible exact lFrac) rfl ?_; refine Ops.stWN 3 rfl rfl rfl rfl rfl (by with_reducible exact szFrac) rfl rfl ?_; refine Ops.assign rfl rfl rfl ?_; refine Ops.nil (hK _ _ ?_); clear hK K; refine Fin.then ?_; refine St.ret ?_)
    refine Fin.ret [_, _, _] rfl (AllRes.tmp rfl (AllRes.cellN (n := 3) rfl rfl (by with_reducible exact lFrac) rfl (AllRes.tmp rfl AllRes.nil))) rfl rfl
theorem less_q (a b : Rat) (ha : SzQ a) (hb : SzQ b) : Ok Tryz.prog 101 [ratC a, ratC b] (boolC (decide (cmpQ a b < 0))) := by
  refine Ok.enter Tryz.func101 rfl _ Tryz.ntmps101 rfl ?_
  intro S w
  (refine St.seq ?_; refine St.regionK (fun K hK => ?_); refine Ops.boxN 0 rfl rfl rfl rfl rfl rfl rfl ?_; refine Ops.boxN 1 rfl rfl rfl rfl rfl rfl rfl ?_; refine Ops.assign rfl rfl rfl ?_; refine Ops.nil (hK _ _ ?_); clear hK K; refine Fin.then ?_; refine St.seq ?_; refine St.regionK (fun K hK => ?_); refine Ops.ldNO (n := 3) rfl rfl rfl rfl rfl (by with_reducible exact lFrac) rfl ?_; refine Ops.ldNO (n := 3) rfl rfl rfl rfl rfl (by with_reducible exact lFrac) rfl ?_)
  refine Ops.call goFCompare (FCompare_q a b (by have := ha.n; omega) (by have := ha.d; omega) (by have := hb.n; omega) (by have := hb.d; omega)) rfl rfl rfl rfl ?_
  (refine Ops.move rfl rfl rfl ?_; refine Ops.extract rfl rfl rfl rfl ?_; refine Ops.extract rfl rfl rfl rfl ?_; refine Ops.assign rfl rfl rfl ?_; refine Ops.assign rfl rfl rfl ?_; refine Ops.nil (hK _ _ ?_); clear hK K; refine Fin.then ?_; refine St.seq ?_; refine St.regionK (fun K hK => ?_); refine Ops.move rfl rfl rfl ?_; refine Ops.ibin ilss rfl rfl rfl rfl ?_; refine Ops.assign rfl rfl rfl ?_; refine Ops.nil (hK _ _ ?_); clear hK K; refine Fin.then ?_; refine St.ret ?_)
  refine Fin.ret [_] rfl (AllRes.tmp rfl AllRes.nil) rfl rfl
theorem SzQ.int {b : Int} (h : b.natAbs ≤ 4503599627370496) : SzQ (b : Rat) := ⟨by have := (int_lens h).1; omega, by have := (int_lens h).2; omega⟩
def covQ (os : List Rat) (c : List Int) : Bool := decide (c.length ≤ os.length) && (List.range os.length).all fun j => !decide (cmpQ (os.getD j 0) (c.getD j 0 : Rat) < 0)
set_option maxHeartbeats 4000000 in
theorem covers_q (os : List Rat) (c : List Int) (hl : os.length ≤ 64) (hlc : c.length ≤ 64) (ho : ∀ y ∈ os, SzQ y) (hc : ∀ y ∈ c, y.natAbs ≤ 4503599627370496) : Ok Tryz.prog 100 [ratsC os, intsC c] (boolC (covQ os c)) := by
  refine Ok.enter Tryz.func100 rfl _ Tryz.ntmps100 rfl ?_
  intro S w
  (refine St.seq ?_; refine St.regionK (fun K hK => ?_); refine Ops.assign rfl rfl rfl ?_; refine Ops.nil (hK _ _ ?_); clear hK K; refine Fin.then ?_; refine St.seq ?_; refine St.seq ?_; refine St.regionK (fun K hK => ?_); refine Ops.move rfl rfl rfl ?_; refine Ops.lenF rfl rfl (by with_reducible first | exact sNat.und | exact sInts.und) (List.length_map ..) rfl ?_; refine Ops.move rfl rfl rfl ?_; refine Ops.lenF rfl rfl (by with_reducible first | exact sFracs.und | exact sRows.und) (List.length_map ..) rfl ?_; refine Ops.ibin igtr rfl rfl rfl rfl ?_; refine Ops.nil (hK _ _ ?_); clear hK K; refine Fin.then ?_)
  refine St.condP rfl (fun h => ?_) (fun h => ?_)
  · (refine St.seq ?_; refine St.regionK (fun K hK => ?_); refine Ops.assign rfl rfl rfl ?_; refine Ops.nil (hK _ _ ?_); clear hK K; refine Fin.then ?_; refine St.ret ?_; refine Fin.thenRet ?_)
    refine Fin.ret [_] rfl (AllRes.tmp rfl AllRes.nil) (by unfold covQ; rw [decide_eq_false (show ¬ c.length ≤ os.length by omega)]; rfl) rfl
  have hle : c.length ≤ os.length := by omega
  clear h
  (refine St.skip ?_; refine Fin.then ?_; refine St.seq ?_; refine St.seq ?_; refine St.regionK (fun K hK => ?_); refine Ops.move rfl rfl rfl ?_; refine Ops.lenF rfl rfl (by with_reducible first | exact sFracs.und | exact sRows.und) (List.length_map ..) rfl ?_; refine Ops.move rfl rfl rfl ?_; refine Ops.nil (hK _ _ ?_); clear hK K; refine Fin.then ?_; refine St.block ?_)
  refine St.loop (α := Nat) (fun i => i ≤ os.length ∧ ∀ j, j < i → ¬ cmpQ (os.getD j 0) (c.getD j 0 : Rat) < 0)
    (fun i => [(1, .ct (intsC c)), (15, .ct (ratsC os)), (16, .ct (intC os.length)), (17, .ct (intC i))]) (fun _ => []) (fun i => os.length - i) 0 ⟨Nat.zero_le _, fun j h => absurd h (Nat.not_lt_zero j)⟩ (by exact Entails.of rfl ⟨rfl, rfl, rfl, rfl, trivial⟩) ?_
  intro i ⟨hi, hj⟩
  dsimp only at hi hj ⊢
  (refine St.seq ?_; refine St.regionK (fun K hK => ?_); refine Ops.ibin ilss rfl rfl rfl rfl ?_; refine Ops.nil (hK _ _ ?_); clear hK K; refine Fin.then ?_; refine St.seq ?_)
  refine St.condP rfl (fun h => ?_) (fun h => ?_)
  · have e2 : (i : Int).toNat = i := Int.toNat_natCast i
    have hlt : i < os.length := by omega
    have b0 := ho (os.getD i 0) (getD_mem hlt)
    have b1 : (c.getD i 0).natAbs ≤ 4503599627370496 := by
      rcases Nat.lt_or_ge i c.length with h | h
      · exact hc _ (getD_mem h)
      · rw [List.getD_eq_getElem?_getD, List.getElem?_eq_none (by omega)]; decide
    have hbad : cmpQ (os.getD i 0) (c.getD i 0 : Rat) < 0 → covQ os c = false := fun hgt => by
      unfold covQ
      rw [List.all_eq_false.mpr ⟨i, List.mem_range.mpr hlt, by rw [decide_eq_true hgt]; decide⟩, Bool.and_false]
    have hgood : ¬ (cmpQ (os.getD i 0) (c.getD i 0 : Rat) < 0) → ∀ j, j < i + 1 → ¬ cmpQ (os.getD j 0) (c.getD j 0 : Rat) < 0 := fun hng j hj' => by
      rcases Nat.lt_or_ge j i with h3 | h3
      · exact hj j h3
      · have : j = i := by omega
        rw [this]; exact hng
    (refine St.skip ?_; refine Fin.then ?_; refine St.seq ?_; refine St.block ?_; refine St.seq ?_; refine St.regionK (fun K hK => ?_); refine Ops.move rfl rfl rfl ?_; refine Ops.idxF rfl rfl rfl (by with_reducible exact sFracs) (by omega) (rats_at (by omega) (by omega)) rfl ?_; refine Ops.ldNF (n := 3) rfl rfl rfl (by with_reducible exact lFrac) rfl rfl ?_; refine Ops.alloc 0 rfl rfl (by with_reducible first | exact zvFrac) rfl rfl rfl ?_; refine Ops.assign rfl rfl rfl ?_; refine Ops.stWN 3 rfl rfl rfl rfl rfl (by with_reducible exact szFrac) rfl rfl ?_; refine Ops.nil (hK _ _ ?_); clear hK K; refine Fin.then ?_; refine St.seq ?_; refine St.regionK (fun K hK => ?_); refine Ops.assign rfl rfl rfl ?_; refine Ops.nil (hK _ _ ?_); clear hK K; refine Fin.then ?_; refine St.seq ?_; refine St.seq ?_; refine St.regionK (fun K hK => ?_); refine Ops.move rfl rfl rfl ?_; refine Ops.move rfl rfl rfl ?_; refine Ops.lenF rfl rfl (by with_reducible first | exact sNat.und | exact sInts.und) (List.length_map ..) rfl ?_; refine Ops.ibin ilss rfl rfl rfl rfl ?_; refine Ops.nil (hK _ _ ?_); clear hK K; refine Fin.then ?_)
    rw [e2]
    skip
    refine St.condP rfl (fun h3 => ?_) (fun h3 => ?_)
    · (refine St.regionK (fun K hK => ?_); refine Ops.move rfl rfl rfl ?_; refine Ops.move rfl rfl rfl ?_; refine Ops.idxF rfl rfl rfl (by with_reducible first | exact sNat | exact sInts) (by omega) (ints_at (by omega) (by omega)) rfl ?_; refine Ops.ld1F rfl rfl rfl (by with_reducible first | exact lInt | exact lNat | exact lBool | exact lInts) rfl ?_; refine Ops.assign rfl rfl rfl ?_; refine Ops.nil (hK _ _ ?_); clear hK K; refine Fin.then ?_; refine St.seq ?_; refine St.regionK (fun K hK => ?_); refine Ops.move rfl rfl rfl ?_)
      rw [e2]
      skip
      refine Ops.call goFFrom (From_int (c.getD i 0) (by omega) (by omega)) rfl rfl rfl rfl ?_
      (refine Ops.move rfl rfl rfl ?_; refine Ops.extract rfl rfl rfl rfl ?_; refine Ops.extract rfl rfl rfl rfl ?_; refine Ops.alloc 1 rfl rfl (by with_reducible first | exact zvFrac) rfl rfl rfl ?_; refine Ops.stWN 3 rfl rfl rfl rfl rfl (by with_reducible exact szFrac) rfl rfl ?_; refine Ops.assign rfl rfl rfl ?_; refine Ops.nil (hK _ _ ?_); clear hK K; refine Fin.then ?_; refine St.seq ?_; refine St.regionK (fun K hK => ?_); refine Ops.ldNO (n := 3) rfl rfl rfl rfl rfl (by with_reducible exact lFrac) rfl ?_; refine Ops.ldNO (n := 3) rfl rfl rfl rfl rfl (by with_reducible exact lFrac) rfl ?_)
      refine Ops.call goless (less_q (os.getD i 0) (c.getD i 0 : Rat) b0 (SzQ.int b1)) rfl rfl rfl rfl ?_
      (refine Ops.nil (hK _ _ ?_); clear hK K; refine Fin.then ?_)
      refine St.condP rfl (fun h4 => ?_) (fun h4 => ?_)
      · (refine St.seq ?_; refine St.regionK (fun K hK => ?_); refine Ops.assign rfl rfl rfl ?_; refine Ops.nil (hK _ _ ?_); clear hK K; refine Fin.then ?_; refine St.ret ?_; refine Fin.blockRet ?_; refine Fin.thenRet ?_; refine Fin.thenRet ?_; refine Fin.blockRet ?_; refine Fin.thenRet ?_)
        refine Fin.ret [_] rfl (AllRes.tmp rfl AllRes.nil) (by rw [hbad h4]; rfl) rfl
      · (refine St.skip ?_; refine Fin.then ?_; refine St.regionK (fun K hK => ?_); refine Ops.ibin (iadd (by omega) (by omega)) rfl rfl rfl rfl ?_; refine Ops.move rfl rfl rfl ?_; refine Ops.nil (hK _ _ ?_); clear hK K; refine Fin.thenN ?_)
        refine Fin.dropB 1 (Fin.dropB 0 ?_)
        refine Fin.next (i + 1) (by omega) ⟨by omega, hgood h4⟩ (by exact Entails.of rfl ⟨rfl, rfl, rfl, by simp only [Int.natCast_add]; rfl, trivial⟩)
    · have ec : c.getD i 0 = 0 := by rw [List.getD_eq_getElem?_getD, List.getElem?_eq_none (by omega)]; rfl
      (refine St.skip ?_; refine Fin.then ?_; refine St.seq ?_; refine St.regionK (fun K hK => ?_); refine Ops.move rfl rfl rfl ?_)
      refine Ops.call goFFrom (From_int 0 (by omega) (by omega)) rfl rfl rfl rfl ?_
      (refine Ops.move rfl rfl rfl ?_; refine Ops.extract rfl rfl rfl rfl ?_; refine Ops.extract rfl rfl rfl rfl ?_; refine Ops.alloc 1 rfl rfl (by with_reducible first | exact zvFrac) rfl rfl rfl ?_; refine Ops.stWN 3 rfl rfl rfl rfl rfl (by with_reducible exact szFrac) rfl rfl ?_; refine Ops.assign rfl rfl rfl ?_; refine Ops.nil (hK _ _ ?_); clear hK K; refine Fin.then ?_; refine St.seq ?_; refine St.regionK (fun K hK => ?_); refine Ops.ldNO (n := 3) rfl rfl rfl rfl rfl (by with_reducible exact lFrac) rfl ?_; refine Ops.ldNO (n := 3) rfl rfl rfl rfl rfl (by with_reducible exact lFrac) rfl ?_)
      refine Ops.call goless (less_q (os.getD i 0) ((0 : Int) : Rat) b0 (SzQ.int (by decide))) rfl rfl rfl rfl ?_
      (refine Ops.nil (hK _ _ ?_); clear hK K; refine Fin.then ?_)
      refine St.condP rfl (fun h4 => ?_) (fun h4 => ?_)
      · (refine St.seq ?_; refine St.regionK (fun K hK => ?_); refine Ops.assign rfl rfl rfl ?_; refine Ops.nil (hK _ _ ?_); clear hK K; refine Fin.then ?_; refine St.ret ?_; refine Fin.blockRet ?_; refine Fin.thenRet ?_; refine Fin.thenRet ?_; refine Fin.blockRet ?_; refine Fin.thenRet ?_)
        refine Fin.ret [_] rfl (AllRes.tmp rfl AllRes.nil) (by rw [hbad (by rw [ec]; exact h4)]; rfl) rfl
      · (refine St.skip ?_; refine Fin.then ?_; refine St.regionK (fun K hK => ?_); refine Ops.ibin (iadd (by omega) (by omega)) rfl rfl rfl rfl ?_; refine Ops.move rfl rfl rfl ?_; refine Ops.nil (hK _ _ ?_); clear hK K; refine Fin.thenN ?_)
        refine Fin.dropB 1 (Fin.dropB 0 ?_)
        refine Fin.next (i + 1) (by omega) ⟨by omega, hgood (by rw [ec]; exact h4)⟩ (by exact Entails.of rfl ⟨rfl, rfl, rfl, by simp only [Int.natCast_add]; rfl, trivial⟩)
  · have hi' : i = os.length := by omega
    (refine St.exit ?_; refine Fin.then ?_; refine St.seq ?_; refine St.regionK (fun K hK => ?_); refine Ops.assign rfl rfl rfl ?_; refine Ops.nil (hK _ _ ?_); clear hK K; refine Fin.then ?_; refine St.ret ?_)
    refine Fin.ret [_] rfl (AllRes.tmp rfl AllRes.nil) (by
      unfold covQ
      rw [decide_eq_true hle, List.all_eq_true.mpr (fun j hj2 => by rw [decide_eq_false (hj j (by have := List.mem_range.mp hj2; omega))]; rfl)]; rfl) rfl
end Go.Proofs.YtdhmbgogmoaofaaGreat
namespace Go.Proofs.YtdhmbgogmoaofaaGreat
open Go.Own Go.Limbs
attribute [local irreducible] St Ops Go.Own.Fin Ok
theorem VF.szq {q : Rat} (h : VF (ofQ q)) : SzQ q := ⟨h.1, h.2⟩
theorem SzQ.vf {q : Rat} (h : SzQ q) : VF (ofQ q) := VF.q q h.n h.d
theorem Mul.cols {n : Nat} {rs : List Rw} {ys : List Fr} (H : Mul n rs ys) : ∀ q ∈ colsQ rs ys n, SzQ q := fun q hq => by
  obtain ⟨j, hj, rfl⟩ := List.mem_map.1 hq
  exact (H.c j (List.mem_range.1 hj)).2
theorem colsQ_len (rs : List Rw) (ys : List Fr) (n : Nat) : (colsQ rs ys n).length = n := by simp [colsQ]
set_option maxHeartbeats 4000000 in
theorem Bounds_gen (n : Nat) (rs : List Rw) (c : List Int) (ys : List Fr) (most : Rat) (hv : validR n rs = true) (H : Mul n rs ys) (hlc : c.length ≤ 64) (hc : ∀ y ∈ c, y.natAbs ≤ 4503599627370496) (hm : SzQ most) :
    Ok Tryz.prog 41 [intC n, rowsC rs, intsC c, fracsC ys, ratC most] (boolC (covQ (colsQ rs ys n) c && !decide (cmpQ most (bsQ rs ys) < 0))) := by
  have h1 := Combine_gen n rs ys hv H
  have h2 := covers_q (colsQ rs ys n) c (by rw [colsQ_len]; have := (validR_spec hv).2.1; omega) hlc H.cols hc
  have h3 := less_q most (bsQ rs ys) hm H.b.2
  generalize colsQ rs ys n = os at *
  generalize bsQ rs ys = bs at *
  refine Ok.enter Tryz.func41 rfl _ Tryz.ntmps41 rfl ?_
  intro S w
  (refine St.seq ?_; refine St.regionK (fun K hK => ?_); refine Ops.boxN 0 rfl rfl rfl rfl rfl rfl rfl ?_; refine Ops.assign rfl rfl rfl ?_; refine Ops.nil (hK _ _ ?_); clear hK K; refine Fin.then ?_; refine St.seq ?_; refine St.regionK (fun K hK => ?_); refine Ops.move rfl rfl rfl ?_; refine Ops.move rfl rfl rfl ?_; refine Ops.move rfl rfl rfl ?_)
  refine Ops.call goCombine h1 rfl rfl rfl rfl ?_
  (refine Ops.move rfl rfl rfl ?_; refine Ops.extract rfl rfl rfl rfl ?_; refine Ops.extract rfl rfl rfl rfl ?_; refine Ops.extract rfl rfl rfl rfl ?_; refine Ops.alloc 1 rfl rfl (by with_reducible first | exact zvFrac) rfl rfl rfl ?_; refine Ops.assign rfl rfl rfl ?_; refine Ops.stWN 3 rfl rfl rfl rfl rfl (by with_reducible exact szFrac) rfl rfl ?_; refine Ops.assign rfl rfl rfl ?_; refine Ops.nil (hK _ _ ?_); clear hK K; refine Fin.then ?_; refine St.seq ?_; refine St.regionK (fun K hK => ?_); refine Ops.move rfl rfl rfl ?_; refine Ops.ibin ieql rfl rfl rfl rfl ?_; refine Ops.move rfl rfl rfl ?_; refine Ops.ldNO (n := 3) rfl rfl rfl rfl rfl (by with_reducible exact lFrac) rfl ?_)
  refine Ops.call goFValid (FValid_V _ hm.vf) rfl rfl rfl rfl ?_
  (refine Ops.pickT rfl rfl rfl rfl ?_; refine Ops.move rfl rfl rfl ?_; refine Ops.move rfl rfl rfl ?_; refine Ops.move rfl rfl rfl ?_)
  refine Ops.call gocovers h2 rfl rfl rfl rfl ?_
  (refine Ops.pickT rfl rfl rfl rfl ?_; refine Ops.move rfl rfl rfl ?_)
  refine Ops.split 33 rfl (fun h => ?_) (fun h => ?_)
  · (refine Ops.ldNO (n := 3) rfl rfl rfl rfl rfl (by with_reducible exact lFrac) rfl ?_; refine Ops.ldNO (n := 3) rfl rfl rfl rfl rfl (by with_reducible exact lFrac) rfl ?_)
    refine Ops.call goless h3 rfl rfl rfl rfl ?_
    (refine Ops.inot rfl rfl rfl ?_; refine Ops.pickT rfl rfl rfl rfl ?_; refine Ops.assign rfl rfl rfl ?_; refine Ops.nil (hK _ _ ?_); clear hK K; refine Fin.then ?_; refine St.ret ?_)
    refine Fin.ret [_] rfl (AllRes.tmp rfl AllRes.nil) (by rw [h]; rfl) rfl
  · (refine Ops.skip rfl rfl rfl ?_; refine Ops.skip rfl rfl rfl ?_; refine Ops.skip rfl rfl rfl ?_; refine Ops.skip rfl rfl rfl ?_; refine Ops.pickF rfl rfl rfl rfl ?_; refine Ops.assign rfl rfl rfl ?_; refine Ops.nil (hK _ _ ?_); clear hK K; refine Fin.then ?_; refine St.ret ?_)
    refine Fin.ret [_] rfl (AllRes.tmp rfl AllRes.nil) (by rw [h]; rfl) rfl
set_option maxHeartbeats 4000000 in
theorem Refutes_gen (n : Nat) (rs : List Rw) (ys : List Fr) (hv : validR n rs = true) (H : Mul n rs ys) :
    Ok Tryz.prog 49 [intC n, rowsC rs, fracsC ys] (boolC (decide ((bsQ rs ys).num < 0) && covQ (colsQ rs ys n) [])) := by
  have h1 := Combine_gen n rs ys hv H
  have h2 := (covers_q (colsQ rs ys n) [] (by rw [colsQ_len]; have := (validR_spec hv).2.1; omega) (by simp) H.cols (fun y h => by cases h)).weak (As' := [_, .ex (.slice none 0 0)]) ⟨w_same, w_nil, trivial⟩
  generalize colsQ rs ys n = os at *
  have h3 : (ofQ (bsQ rs ys)).neg = decide ((bsQ rs ys).num < 0) := rfl
  generalize decide ((bsQ rs ys).num < 0) = bn at *
  refine Ok.enter Tryz.func49 rfl _ Tryz.ntmps49 rfl ?_
  intro S w
  (refine St.seq ?_; refine St.regionK (fun K hK => ?_); refine Ops.assign rfl rfl rfl ?_; refine Ops.nil (hK _ _ ?_); clear hK K; refine Fin.then ?_; refine St.seq ?_; refine St.regionK (fun K hK => ?_); refine Ops.move rfl rfl rfl ?_; refine Ops.move rfl rfl rfl ?_; refine Ops.move rfl rfl rfl ?_)
  refine Ops.call goCombine h1 rfl rfl rfl rfl ?_
  (refine Ops.move rfl rfl rfl ?_; refine Ops.extract rfl rfl rfl rfl ?_; refine Ops.extract rfl rfl rfl rfl ?_; refine Ops.extract rfl rfl rfl rfl ?_; refine Ops.alloc 0 rfl rfl (by with_reducible first | exact zvFrac) rfl rfl rfl ?_; refine Ops.assign rfl rfl rfl ?_; refine Ops.stWN 3 rfl rfl rfl rfl rfl (by with_reducible exact szFrac) rfl rfl ?_; refine Ops.assign rfl rfl rfl ?_; refine Ops.nil (hK _ _ ?_); clear hK K; refine Fin.then ?_; refine St.seq ?_; refine St.regionK (fun K hK => ?_); refine Ops.move rfl rfl rfl ?_; refine Ops.ibin ieql rfl rfl rfl rfl ?_; refine Ops.move rfl rfl rfl ?_; refine Ops.fldO rfl rfl rfl (by with_reducible first | exact fF0 | exact fF1 | exact fF2 | exact fR0 | exact fR1) rfl ?_; refine Ops.ld1A rfl rfl rfl rfl rfl (by with_reducible first | exact lInt | exact lNat | exact lBool | exact lInts) rfl ?_; refine Ops.pickT rfl rfl rfl rfl ?_; refine Ops.move rfl rfl rfl ?_)
  refine Ops.split 24 rfl (fun h => ?_) (fun h => ?_)
  · (refine Ops.move rfl rfl rfl ?_)
    refine Ops.call gocovers h2 rfl rfl rfl rfl ?_
    (refine Ops.pickT rfl rfl rfl rfl ?_; refine Ops.assign rfl rfl rfl ?_; refine Ops.nil (hK _ _ ?_); clear hK K; refine Fin.then ?_; refine St.ret ?_)
    refine Fin.ret [_] rfl (AllRes.tmp rfl AllRes.nil) (by rw [← h3, h]; rfl) rfl
  · (refine Ops.skip rfl rfl rfl ?_; refine Ops.skip rfl rfl rfl ?_; refine Ops.pickF rfl rfl rfl rfl ?_; refine Ops.assign rfl rfl rfl ?_; refine Ops.nil (hK _ _ ?_); clear hK K; refine Fin.then ?_; refine St.ret ?_)
    refine Fin.ret [_] rfl (AllRes.tmp rfl AllRes.nil) (by rw [← h3, h]; rfl) rfl
theorem zero_frz : Ok Tryz.prog 108 [fracC frz0] (boolC true) := by
  refine Ok.enter Tryz.func108 rfl _ Tryz.ntmps108 rfl ?_
  intro S w
  have e : (limbs frz0.num).length = 0 := by decide +kernel
  have e' : (limbs frz0.den).length = 0 := by decide +kernel
  have e2 : frz0.neg = false := rfl
  generalize frz0 = f at *
  (refine St.seq ?_; refine St.regionK (fun K hK => ?_); refine Ops.boxN 0 rfl rfl rfl rfl rfl rfl rfl ?_; refine Ops.assign rfl rfl rfl ?_; refine Ops.nil (hK _ _ ?_); clear hK K; refine Fin.then ?_; refine St.seq ?_; refine St.regionK (fun K hK => ?_); refine Ops.fldO rfl rfl rfl (by with_reducible first | exact fF0 | exact fF1 | exact fF2 | exact fR0 | exact fR1) rfl ?_; refine Ops.ld1A rfl rfl rfl rfl rfl (by with_reducible first | exact lInt | exact lNat | exact lBool | exact lInts) rfl ?_; refine Ops.inot rfl rfl rfl ?_; refine Ops.move rfl rfl rfl ?_)
  rw [e2]
  (refine Ops.fldO rfl rfl rfl (by with_reducible first | exact fF0 | exact fF1 | exact fF2 | exact fR0 | exact fR1) rfl ?_; refine Ops.ld1A rfl rfl rfl rfl rfl (by with_reducible first | exact lInt | exact lNat | exact lBool | exact lInts) rfl ?_; refine Ops.lenF rfl rfl (by with_reducible first | exact sNat.und | exact sInts.und) (List.length_map ..) rfl ?_; refine Ops.ibin ieql rfl rfl rfl rfl ?_; refine Ops.pickT rfl rfl rfl rfl ?_; refine Ops.move rfl rfl rfl ?_)
  rw [e]
  (refine Ops.fldO rfl rfl rfl (by with_reducible first | exact fF0 | exact fF1 | exact fF2 | exact fR0 | exact fR1) rfl ?_; refine Ops.ld1A rfl rfl rfl rfl rfl (by with_reducible first | exact lInt | exact lNat | exact lBool | exact lInts) rfl ?_; refine Ops.lenF rfl rfl (by with_reducible first | exact sNat.und | exact sInts.und) (List.length_map ..) rfl ?_; refine Ops.ibin ieql rfl rfl rfl rfl ?_; refine Ops.pickT rfl rfl rfl rfl ?_; refine Ops.assign rfl rfl rfl ?_; refine Ops.nil (hK _ _ ?_); clear hK K; refine Fin.then ?_; refine St.ret ?_)
  rw [e']
  skip
  refine Fin.ret [_] rfl (AllRes.tmp rfl AllRes.nil) rfl rfl
theorem gozero : InGo Tryz.prog 108 := InGo.of Tryz.func108 (by kernel_rfl) (by kernel_rfl)
theorem gogrows1 : InGo Tryz.prog 149 := InGo.of Tryz.func149 (by kernel_rfl) (by kernel_rfl)
theorem grows1_V (f : Fr) (h : VF f) : Ok Tryz.prog 149 [fracC f] (boolC f.neg) := by
  refine Ok.enter Tryz.func149 rfl _ Tryz.ntmps149 rfl ?_
  intro S w
  (refine St.seq ?_; refine St.regionK (fun K hK => ?_); refine Ops.boxN 0 rfl rfl rfl rfl rfl rfl rfl ?_; refine Ops.assign rfl rfl rfl ?_; refine Ops.nil (hK _ _ ?_); clear hK K; refine Fin.then ?_; refine St.seq ?_; refine St.regionK (fun K hK => ?_); refine Ops.ldNO (n := 3) rfl rfl rfl rfl rfl (by with_reducible exact lFrac) rfl ?_)
  refine Ops.call goFValid (FValid_V f h) rfl rfl rfl rfl ?_
  (refine Ops.inot rfl rfl rfl ?_; refine Ops.move rfl rfl rfl ?_; refine Ops.fldO rfl rfl rfl (by with_reducible first | exact fF0 | exact fF1 | exact fF2 | exact fR0 | exact fR1) rfl ?_; refine Ops.ld1A rfl rfl rfl rfl rfl (by with_reducible first | exact lInt | exact lNat | exact lBool | exact lInts) rfl ?_; refine Ops.pickF rfl rfl rfl rfl ?_; refine Ops.assign rfl rfl rfl ?_; refine Ops.nil (hK _ _ ?_); clear hK K; refine Fin.then ?_; refine St.ret ?_)
  refine Fin.ret [_] rfl (AllRes.tmp rfl AllRes.nil) rfl rfl
end Go.Proofs.YtdhmbgogmoaofaaGreat
namespace Go.Proofs.YtdhmbgogmoaofaaGreat
open Go.Own Go.Limbs
attribute [local irreducible] St Ops Go.Own.Fin Ok
theorem ofQ_pos (q : Rat) : (!(ofQ q).neg && decide ((0 : Int) < ((limbs (ofQ q).num).length : Int))) = decide (0 < q.num) := by
  have h := limbs_len_pos (n := (ofQ q).num)
  have e1 : (ofQ q).neg = decide (q.num < 0) := rfl
  have e2 : (ofQ q).num = q.num.natAbs := rfl
  rw [e1]
  rw [e2] at h ⊢
  generalize q.num = z at *
  rcases Int.lt_trichotomy z 0 with h1 | h1 | h1
  · rw [decide_eq_true h1, decide_eq_false (show ¬ 0 < z by omega)]; rfl
  · subst h1; decide +kernel
  · rw [decide_eq_false (show ¬ z < 0 by omega), decide_eq_true (show 0 < z by omega), decide_eq_true (show (0 : Int) < ((limbs z.natAbs).length : Int) by omega)]; rfl
def growB (rs : List Rw) (c : List Int) (ray : List Fr) : Bool := rs.all (fun r => !decide (0 < (vsum r.cs ray).num)) && decide (0 < (vsum c ray).num)
set_option maxHeartbeats 8000000 in
theorem grows_gen (n : Nat) (rs : List Rw) (c : List Int) (ray : List Fr) (hl : ray.length = n) (hn : n ≤ 64) (hrl : rs.length ≤ 64) (hx : ∀ f ∈ ray, VF f) (hneg : ∀ f ∈ ray, f.neg = false) (hR : ∀ r ∈ rs, VFit r.cs ray) (hC : VFit c ray) :
    Ok Tryz.prog 109 [intC n, rowsC rs, intsC c, fracsC ray] (boolC (growB rs c ray)) := by
  have hCF := ContainsFunc_fracs ray _ (fun f => f.neg) gogrows1 (fun f hf => grows1_V f (hx f hf)) (by omega)
  rw [show ray.any (fun f => f.neg) = false from List.any_eq_false.2 fun f hf => by rw [hneg f hf]; decide] at hCF
  have hVc := Value_gen c ray hC
  have hpc := ofQ_pos (vsum c ray)
  refine Ok.enter Tryz.func109 rfl _ Tryz.ntmps109 rfl ?_
  intro S w
  (refine St.seq ?_; refine St.regionK (fun K hK => ?_); refine Ops.assign rfl rfl rfl ?_; refine Ops.nil (hK _ _ ?_); clear hK K; refine Fin.then ?_; refine St.seq ?_; refine St.seq ?_; refine St.regionK (fun K hK => ?_); refine Ops.move rfl rfl rfl ?_; refine Ops.lenF rfl rfl (by with_reducible first | exact sFracs.und | exact sRows.und) (List.length_map ..) rfl ?_; refine Ops.move rfl rfl rfl ?_; refine Ops.ibin ineq rfl rfl rfl rfl ?_; refine Ops.move rfl rfl rfl ?_)
  rw [decide_eq_false (show ¬ ((ray.length : Int) ≠ (n : Int)) by omega)]
  (refine Ops.move rfl rfl rfl ?_)
  refine Ops.call goContainsFunc_fracs hCF rfl rfl rfl rfl ?_
  (refine Ops.pickF rfl rfl rfl rfl ?_; refine Ops.nil (hK _ _ ?_); clear hK K; refine Fin.then ?_; refine St.condF rfl ?_; refine St.skip ?_; refine Fin.then ?_; refine St.seq ?_; refine St.seq ?_; refine St.regionK (fun K hK => ?_); refine Ops.move rfl rfl rfl ?_; refine Ops.lenF rfl rfl (by with_reducible first | exact sFracs.und | exact sRows.und) (List.length_map ..) rfl ?_; refine Ops.move rfl rfl rfl ?_; refine Ops.nil (hK _ _ ?_); clear hK K; refine Fin.then ?_; refine St.block ?_)
  refine St.loop (α := Nat) (fun i => i ≤ rs.length ∧ ∀ j, j < i → ¬ 0 < (vsum (rs.getD j rw0).cs ray).num)
    (fun i => [(2, .ct (intsC c)), (3, .ct (fracsC ray)), (23, .ct (rowsC rs)), (24, .ct (intC rs.length)), (25, .ct (intC i))]) (fun _ => []) (fun i => rs.length - i) 0 ⟨Nat.zero_le _, fun j h => absurd h (Nat.not_lt_zero j)⟩ (by exact Entails.of rfl ⟨rfl, rfl, rfl, rfl, rfl, trivial⟩) ?_
  intro i ⟨hi, hj⟩
  (try dsimp only at hi hj ⊢)
  (refine St.seq ?_; refine St.regionK (fun K hK => ?_); refine Ops.ibin ilss rfl rfl rfl rfl ?_; refine Ops.nil (hK _ _ ?_); clear hK K; refine Fin.then ?_; refine St.seq ?_)
  refine St.condP rfl (fun h => ?_) (fun h => ?_)
  · have e2 : (i : Int).toNat = i := Int.toNat_natCast i
    have hlt : i < rs.length := by omega
    have hmem := getD_mem (z := rw0) hlt
    have hVal := Value_gen (rs.getD i rw0).cs ray (hR _ hmem)
    have hp := ofQ_pos (vsum (rs.getD i rw0).cs ray)
    have hbad : 0 < (vsum (rs.getD i rw0).cs ray).num → growB rs c ray = false := fun hgt => by
      unfold growB
      rw [List.all_eq_false.mpr ⟨_, hmem, by rw [decide_eq_true hgt]; decide⟩]; rfl
    have hgood : ¬ 0 < (vsum (rs.getD i rw0).cs ray).num → ∀ j, j < i + 1 → ¬ 0 < (vsum (rs.getD j rw0).cs ray).num := fun hng j hj' => by
      rcases Nat.lt_or_ge j i with h3 | h3
      · exact hj j h3
      · have : j = i := by omega
        rw [this]; exact hng
    (refine St.skip ?_; refine Fin.then ?_; refine St.seq ?_; refine St.block ?_; refine St.seq ?_; refine St.regionK (fun K hK => ?_); refine Ops.idxF rfl rfl rfl (by with_reducible exact sRows) (by omega) (rows_at (by omega) (by omega)) rfl ?_; refine Ops.ldNF (n := 2) rfl rfl rfl (by with_reducible exact lRow) rfl rfl ?_; refine Ops.alloc 0 rfl rfl (by with_reducible exact zvRow) rfl rfl rfl ?_; refine Ops.stWN 2 rfl rfl rfl rfl rfl (by with_reducible exact szRow) rfl rfl ?_; refine Ops.nil (hK _ _ ?_); clear hK K; refine Fin.then ?_; refine St.seq ?_; refine St.regionK (fun K hK => ?_); refine Ops.fldO rfl rfl rfl (by with_reducible first | exact fF0 | exact fF1 | exact fF2 | exact fR0 | exact fR1) rfl ?_; refine Ops.ld1A rfl rfl rfl rfl rfl (by with_reducible first | exact lInt | exact lNat | exact lBool | exact lInts) rfl ?_; refine Ops.move rfl rfl rfl ?_)
    rw [e2]
    generalize rs.getD i rw0 = r0 at hVal hp hbad hgood ⊢
    skip
    refine Ops.call goValue hVal rfl rfl rfl rfl ?_
    generalize vsum r0.cs ray = q at hp hbad hgood ⊢
    (refine Ops.move rfl rfl rfl ?_; refine Ops.extract rfl rfl rfl rfl ?_; refine Ops.extract rfl rfl rfl rfl ?_; refine Ops.alloc 1 rfl rfl (by with_reducible first | exact zvFrac) rfl rfl rfl ?_; refine Ops.stWN 3 rfl rfl rfl rfl rfl (by with_reducible exact szFrac) rfl rfl ?_; refine Ops.assign rfl rfl rfl ?_; refine Ops.nil (hK _ _ ?_); clear hK K; refine Fin.then ?_; refine St.seq ?_; refine St.regionK (fun K hK => ?_); refine Ops.move rfl rfl rfl ?_; refine Ops.ibin ineq rfl rfl rfl rfl ?_; refine Ops.move rfl rfl rfl ?_; refine Ops.fldO rfl rfl rfl (by with_reducible first | exact fF0 | exact fF1 | exact fF2 | exact fR0 | exact fR1) rfl ?_; refine Ops.ld1A rfl rfl rfl rfl rfl (by with_reducible first | exact lInt | exact lNat | exact lBool | exact lInts) rfl ?_; refine Ops.inot rfl rfl rfl ?_; refine Ops.move rfl rfl rfl ?_)
    refine Ops.split 42 rfl (fun h2 => ?_) (fun h2 => ?_)
    · rw [h2, Bool.true_and] at hp
      (refine Ops.fldO rfl rfl rfl (by with_reducible first | exact fF0 | exact fF1 | exact fF2 | exact fR0 | exact fR1) rfl ?_; refine Ops.ld1A rfl rfl rfl rfl rfl (by with_reducible first | exact lInt | exact lNat | exact lBool | exact lInts) rfl ?_; refine Ops.lenF rfl rfl (by with_reducible first | exact sNat.und | exact sInts.und) (List.length_map ..) rfl ?_; refine Ops.ibin igtr rfl rfl rfl rfl ?_; refine Ops.pickT rfl rfl rfl rfl ?_; refine Ops.pickF rfl rfl rfl rfl ?_; refine Ops.nil (hK _ _ ?_); clear hK K; refine Fin.then ?_)
      refine St.condP rfl (fun h3 => ?_) (fun h3 => ?_)
      · (refine St.seq ?_; refine St.regionK (fun K hK => ?_); refine Ops.assign rfl rfl rfl ?_; refine Ops.nil (hK _ _ ?_); clear hK K; refine Fin.then ?_; refine St.ret ?_; refine Fin.blockRet ?_; refine Fin.thenRet ?_; refine Fin.thenRet ?_; refine Fin.blockRet ?_; refine Fin.thenRet ?_)
        refine Fin.ret [_] rfl (AllRes.tmp rfl AllRes.nil) (by rw [hbad (of_decide_eq_true (hp.symm.trans (decide_eq_true h3)))]; rfl) rfl
      · (refine St.skip ?_; refine Fin.then ?_; refine St.regionK (fun K hK => ?_); refine Ops.ibin (iadd (by omega) (by omega)) rfl rfl rfl rfl ?_; refine Ops.move rfl rfl rfl ?_; refine Ops.nil (hK _ _ ?_); clear hK K; refine Fin.thenN ?_)
        refine Fin.dropB 1 (Fin.dropB 0 ?_)
        refine Fin.next (i + 1) (by omega) ⟨by omega, hgood (of_decide_eq_false (hp.symm.trans (decide_eq_false h3)))⟩ (by exact Entails.of rfl ⟨rfl, rfl, rfl, rfl, by simp only [Int.natCast_add]; rfl, trivial⟩)
    · rw [h2, Bool.false_and] at hp
      (refine Ops.skip rfl rfl rfl ?_; refine Ops.skip rfl rfl rfl ?_; refine Ops.skip rfl rfl rfl ?_; refine Ops.skip rfl rfl rfl ?_; refine Ops.pickF rfl rfl rfl rfl ?_; refine Ops.pickF rfl rfl rfl rfl ?_; refine Ops.nil (hK _ _ ?_); clear hK K; refine Fin.then ?_; refine St.condF rfl ?_; refine St.skip ?_; refine Fin.then ?_; refine St.regionK (fun K hK => ?_); refine Ops.ibin (iadd (by omega) (by omega)) rfl rfl rfl rfl ?_; refine Ops.move rfl rfl rfl ?_; refine Ops.nil (hK _ _ ?_); clear hK K; refine Fin.thenN ?_)
      refine Fin.dropB 1 (Fin.dropB 0 ?_)
      refine Fin.next (i + 1) (by omega) ⟨by omega, hgood (of_decide_eq_false hp.symm)⟩ (by exact Entails.of rfl ⟨rfl, rfl, rfl, rfl, by simp only [Int.natCast_add]; rfl, trivial⟩)
  · have hi' : i = rs.length := by omega
    have hall : growB rs c ray = decide (0 < (vsum c ray).num) := by
      unfold growB
      rw [List.all_eq_true.mpr (fun r hr => ?_)]
      · rfl
      · obtain ⟨k, hk, rfl⟩ := List.getElem_of_mem hr
        have := hj k (by omega)
        rw [show rs.getD k rw0 = rs[k] by simp [List.getD_eq_getElem?_getD, List.getElem?_eq_getElem hk]] at this
        rw [decide_eq_false this]; rfl
    rw [hall, ← hpc]
    (refine St.exit ?_; refine Fin.then ?_; refine St.seq ?_; refine St.regionK (fun K hK => ?_); refine Ops.move rfl rfl rfl ?_; refine Ops.move rfl rfl rfl ?_)
    refine Ops.call goValue hVc rfl rfl rfl rfl ?_
    (refine Ops.move rfl rfl rfl ?_; refine Ops.extract rfl rfl rfl rfl ?_; refine Ops.extract rfl rfl rfl rfl ?_; refine Ops.alloc 0 rfl rfl (by with_reducible first | exact zvFrac) rfl rfl rfl ?_; refine Ops.stWN 3 rfl rfl rfl rfl rfl (by with_reducible exact szFrac) rfl rfl ?_; refine Ops.assign rfl rfl rfl ?_; refine Ops.nil (hK _ _ ?_); clear hK K; refine Fin.then ?_; refine St.seq ?_; refine St.regionK (fun K hK => ?_); refine Ops.move rfl rfl rfl ?_; refine Ops.ibin ieql rfl rfl rfl rfl ?_; refine Ops.move rfl rfl rfl ?_; refine Ops.fldO rfl rfl rfl (by with_reducible first | exact fF0 | exact fF1 | exact fF2 | exact fR0 | exact fR1) rfl ?_; refine Ops.ld1A rfl rfl rfl rfl rfl (by with_reducible first | exact lInt | exact lNat | exact lBool | exact lInts) rfl ?_; refine Ops.inot rfl rfl rfl ?_; refine Ops.pickT rfl rfl rfl rfl ?_; refine Ops.move rfl rfl rfl ?_)
    refine Ops.split 63 rfl (fun h2 => ?_) (fun h2 => ?_)
    · (refine Ops.fldO rfl rfl rfl (by with_reducible first | exact fF0 | exact fF1 | exact fF2 | exact fR0 | exact fR1) rfl ?_; refine Ops.ld1A rfl rfl rfl rfl rfl (by with_reducible first | exact lInt | exact lNat | exact lBool | exact lInts) rfl ?_; refine Ops.lenF rfl rfl (by with_reducible first | exact sNat.und | exact sInts.und) (List.length_map ..) rfl ?_; refine Ops.ibin igtr rfl rfl rfl rfl ?_; refine Ops.pickT rfl rfl rfl rfl ?_; refine Ops.assign rfl rfl rfl ?_; refine Ops.nil (hK _ _ ?_); clear hK K; refine Fin.then ?_; refine St.ret ?_)
      refine Fin.ret [_] rfl (AllRes.tmp rfl AllRes.nil) (by rw [h2]; rfl) rfl
    · (refine Ops.skip rfl rfl rfl ?_; refine Ops.skip rfl rfl rfl ?_; refine Ops.skip rfl rfl rfl ?_; refine Ops.skip rfl rfl rfl ?_; refine Ops.pickF rfl rfl rfl rfl ?_; refine Ops.assign rfl rfl rfl ?_; refine Ops.nil (hK _ _ ?_); clear hK K; refine Fin.then ?_; refine St.ret ?_)
      refine Fin.ret [_] rfl (AllRes.tmp rfl AllRes.nil) (by rw [h2]; rfl) rfl
theorem gogrows : InGo Tryz.prog 109 := InGo.of Tryz.func109 (by kernel_rfl) (by kernel_rfl)
end Go.Proofs.YtdhmbgogmoaofaaGreat
namespace Go.Proofs.YtdhmbgogmoaofaaGreat
open Go.Own Go.Limbs
attribute [local irreducible] St Ops Go.Own.Fin Ok
theorem goFCheck1 : InGo Tryz.prog 107 := InGo.of Tryz.func107 (by kernel_rfl) (by kernel_rfl)
theorem FCheck1_ok (x : Int) : Ok Tryz.prog 107 [intC x] (boolC (badC x)) := by
  refine Ok.enter Tryz.func107 rfl _ Tryz.ntmps107 rfl ?_
  intro S w
  (refine St.seq ?_; refine St.regionK (fun K hK => ?_); refine Ops.assign rfl rfl rfl ?_; refine Ops.nil (hK _ _ ?_); clear hK K; refine Fin.then ?_; refine St.seq ?_; refine St.regionK (fun K hK => ?_); refine Ops.move rfl rfl rfl ?_; refine Ops.ibin ilss rfl rfl rfl rfl ?_; refine Ops.move rfl rfl rfl ?_)
  refine Ops.splitP 5 rfl (fun h => ?_) (fun h => ?_)
  · (refine Ops.skip rfl rfl rfl ?_; refine Ops.skip rfl rfl rfl ?_; refine Ops.pickT rfl rfl rfl rfl ?_; refine Ops.assign rfl rfl rfl ?_; refine Ops.nil (hK _ _ ?_); clear hK K; refine Fin.then ?_; refine St.ret ?_)
    refine Fin.ret [_] rfl (AllRes.tmp rfl AllRes.nil) (by unfold badC; rw [decide_eq_true h]; rfl) rfl
  · (refine Ops.move rfl rfl rfl ?_; refine Ops.ibin igtr rfl rfl rfl rfl ?_; refine Ops.pickF rfl rfl rfl rfl ?_; refine Ops.assign rfl rfl rfl ?_; refine Ops.nil (hK _ _ ?_); clear hK K; refine Fin.then ?_; refine St.ret ?_)
    refine Fin.ret [_] rfl (AllRes.tmp rfl AllRes.nil) (by unfold badC; rw [decide_eq_false h]; rfl) rfl
theorem lFracs : Ld1 Tryz.prog 25 := Ld1.of _ Tryz.underlying25 rfl
theorem goFCheck : InGo Tryz.prog 44 := InGo.of Tryz.func44 (by kernel_rfl) (by kernel_rfl)
section
variable (N : Nat) (rs : List Rw) (c : List Int) (pt ray du : List Fr) (hv : validR N rs = true) (hc : okCoeffs N c = true)
include hv hc
theorem FCheck_pre : Ok Tryz.prog 29 [intC N, rowsC rs] (boolC true) ∧ c.length ≤ N ∧ Ok Tryz.prog 106 [intsC c, (.ex (.func (.func 107) #[] #[]))] (boolC false) := by
  obtain ⟨v1, v2, v3, v4⟩ := validR_spec hv
  have h1 := LValid_ok N rs (by omega) (fun r hr => by have := (v4 r hr).1; omega)
  rw [hv] at h1
  unfold okCoeffs at hc
  simp only [Bool.and_eq_true, decide_eq_true_eq, Bool.not_eq_true'] at hc
  have h2 := ContainsFunc_ints c _ badC goFCheck1 (fun x _ => FCheck1_ok x) (by omega)
  rw [hc.2] at h2
  exact ⟨h1, by omega, h2⟩
set_option maxHeartbeats 8000000 in
theorem FCheck_opt (val : Rat) (hS : Ok Tryz.prog 20 [intC N, rowsC rs, fracsC pt] (boolC true)) (hV : Ok Tryz.prog 17 [intsC c, fracsC pt] (.fr (tupT [ratC val, intC 0]))) (hs : SzQ val) (hB : Ok Tryz.prog 41 [intC N, rowsC rs, intsC c, fracsC du, ratC val] (boolC true)) :
    Ok Tryz.prog 44 [intC N, rowsC rs, intsC c, ocC ⟨1, ofQ val, pt, [], du⟩] (boolC true) := by
  obtain ⟨p1, p2, p3⟩ := FCheck_pre N rs c hv hc
  have hL := less_q val val hs hs
  rw [cmpQ_self] at hL
  have hL : Ok Tryz.prog 101 [ratC val, ratC val] (boolC false) := hL
  refine Ok.enter Tryz.func44 rfl _ Tryz.ntmps44 rfl ?_
  intro S w
  (refine St.seq ?_; refine St.regionK (fun K hK => ?_); refine Ops.boxN 0 rfl rfl rfl rfl rfl rfl rfl ?_; refine Ops.assign rfl rfl rfl ?_; refine Ops.nil (hK _ _ ?_); clear hK K; refine Fin.then ?_; refine St.seq ?_; refine St.seq ?_; refine St.regionK (fun K hK => ?_); refine Ops.move rfl rfl rfl ?_; refine Ops.move rfl rfl rfl ?_)
  refine Ops.call goLValid p1 rfl rfl rfl rfl ?_
  (refine Ops.inot rfl rfl rfl ?_; refine Ops.move rfl rfl rfl ?_; refine Ops.move rfl rfl rfl ?_; refine Ops.lenF rfl rfl (by with_reducible first | exact sNat.und | exact sInts.und) (List.length_map ..) rfl ?_; refine Ops.move rfl rfl rfl ?_; refine Ops.ibin igtr rfl rfl rfl rfl ?_; refine Ops.pickF rfl rfl rfl rfl ?_; refine Ops.move rfl rfl rfl ?_)
  refine Ops.splitP 21 rfl (fun h => absurd h (by omega)) (fun _ => ?_)
  (refine Ops.move rfl rfl rfl ?_)
  refine Ops.call goContainsFunc_ints p3 rfl rfl rfl rfl ?_
  (refine Ops.pickF rfl rfl rfl rfl ?_; refine Ops.nil (hK _ _ ?_); clear hK K; refine Fin.then ?_; refine St.condF rfl ?_; refine St.skip ?_; refine Fin.then ?_; refine St.seq ?_; refine St.seq ?_; refine St.regionK (fun K hK => ?_); refine Ops.fldO rfl rfl rfl (by with_reducible first | exact fO0 | exact fO1 | exact fO2 | exact fO3 | exact fO4) rfl ?_; refine Ops.ld1A rfl rfl rfl rfl rfl (by with_reducible first | exact lInt | exact lFracs) rfl ?_; refine Ops.nil (hK _ _ ?_); clear hK K; refine Fin.then ?_; refine St.block ?_; refine St.seq ?_; refine St.regionK (fun K hK => ?_); refine Ops.ibin ieql rfl rfl rfl rfl ?_; refine Ops.assign rfl rfl rfl ?_; refine Ops.nil (hK _ _ ?_); clear hK K; refine Fin.then ?_; refine St.condT rfl ?_; refine St.seq ?_; refine St.seq ?_; refine St.regionK (fun K hK => ?_); refine Ops.fldO rfl rfl rfl (by with_reducible first | exact fO0 | exact fO1 | exact fO2 | exact fO3 | exact fO4) rfl ?_; refine Ops.ld1A rfl rfl rfl rfl rfl (by with_reducible first | exact lInt | exact lFracs) rfl ?_; refine Ops.lenF rfl rfl (by with_reducible exact sFracs.und) (List.length_map ..) rfl ?_; refine Ops.ibin igtr rfl rfl rfl rfl ?_; refine Ops.move rfl rfl rfl ?_; refine Ops.fldO rfl rfl rfl (by with_reducible first | exact fO0 | exact fO1 | exact fO2 | exact fO3 | exact fO4) rfl ?_; refine Ops.ldNA (n := 3) rfl rfl rfl rfl (Nat.le_of_ble_eq_true rfl) (by with_reducible exact lFrac) rfl ?_)
  refine Ops.call goFValid (FValid_V _ hs.vf) rfl rfl rfl rfl ?_
  (refine Ops.inot rfl rfl rfl ?_; refine Ops.pickF rfl rfl rfl rfl ?_; refine Ops.move rfl rfl rfl ?_; refine Ops.move rfl rfl rfl ?_; refine Ops.move rfl rfl rfl ?_; refine Ops.fldO rfl rfl rfl (by with_reducible first | exact fO0 | exact fO1 | exact fO2 | exact fO3 | exact fO4) rfl ?_; refine Ops.ld1A rfl rfl rfl rfl rfl (by with_reducible first | exact lInt | exact lFracs) rfl ?_)
  refine Ops.call goSatisfies hS rfl rfl rfl rfl ?_
  (refine Ops.inot rfl rfl rfl ?_; refine Ops.pickF rfl rfl rfl rfl ?_; refine Ops.nil (hK _ _ ?_); clear hK K; refine Fin.then ?_; refine St.condF rfl ?_; refine St.skip ?_; refine Fin.then ?_; refine St.seq ?_; refine St.regionK (fun K hK => ?_); refine Ops.move rfl rfl rfl ?_; refine Ops.fldO rfl rfl rfl (by with_reducible first | exact fO0 | exact fO1 | exact fO2 | exact fO3 | exact fO4) rfl ?_; refine Ops.ld1A rfl rfl rfl rfl rfl (by with_reducible first | exact lInt | exact lFracs) rfl ?_)
  refine Ops.call goValue hV rfl rfl rfl rfl ?_
  (refine Ops.move rfl rfl rfl ?_; refine Ops.extract rfl rfl rfl rfl ?_; refine Ops.extract rfl rfl rfl rfl ?_; refine Ops.alloc 1 rfl rfl (by with_reducible first | exact zvFrac) rfl rfl rfl ?_; refine Ops.stWN 3 rfl rfl rfl rfl rfl (by with_reducible exact szFrac) rfl rfl ?_; refine Ops.assign rfl rfl rfl ?_; refine Ops.nil (hK _ _ ?_); clear hK K; refine Fin.then ?_; refine St.seq ?_; refine St.regionK (fun K hK => ?_); refine Ops.move rfl rfl rfl ?_; refine Ops.ibin ieql rfl rfl rfl rfl ?_; refine Ops.move rfl rfl rfl ?_; refine Ops.ldNO (n := 3) rfl rfl rfl rfl rfl (by with_reducible exact lFrac) rfl ?_; refine Ops.fldO rfl rfl rfl (by with_reducible first | exact fO0 | exact fO1 | exact fO2 | exact fO3 | exact fO4) rfl ?_; refine Ops.ldNA (n := 3) rfl rfl rfl rfl (Nat.le_of_ble_eq_true rfl) (by with_reducible exact lFrac) rfl ?_)
  refine Ops.call goless hL rfl rfl rfl rfl ?_
  (refine Ops.inot rfl rfl rfl ?_; refine Ops.pickT rfl rfl rfl rfl ?_; refine Ops.move rfl rfl rfl ?_; refine Ops.fldO rfl rfl rfl (by with_reducible first | exact fO0 | exact fO1 | exact fO2 | exact fO3 | exact fO4) rfl ?_; refine Ops.ldNA (n := 3) rfl rfl rfl rfl (Nat.le_of_ble_eq_true rfl) (by with_reducible exact lFrac) rfl ?_; refine Ops.ldNO (n := 3) rfl rfl rfl rfl rfl (by with_reducible exact lFrac) rfl ?_)
  refine Ops.call goless hL rfl rfl rfl rfl ?_
  (refine Ops.inot rfl rfl rfl ?_; refine Ops.pickT rfl rfl rfl rfl ?_; refine Ops.move rfl rfl rfl ?_; refine Ops.move rfl rfl rfl ?_; refine Ops.move rfl rfl rfl ?_; refine Ops.move rfl rfl rfl ?_; refine Ops.fldO rfl rfl rfl (by with_reducible first | exact fO0 | exact fO1 | exact fO2 | exact fO3 | exact fO4) rfl ?_; refine Ops.ld1A rfl rfl rfl rfl rfl (by with_reducible first | exact lInt | exact lFracs) rfl ?_; refine Ops.fldO rfl rfl rfl (by with_reducible first | exact fO0 | exact fO1 | exact fO2 | exact fO3 | exact fO4) rfl ?_; refine Ops.ldNA (n := 3) rfl rfl rfl rfl (Nat.le_of_ble_eq_true rfl) (by with_reducible exact lFrac) rfl ?_)
  refine Ops.call goBounds hB rfl rfl rfl rfl ?_
  (refine Ops.pickT rfl rfl rfl rfl ?_; refine Ops.assign rfl rfl rfl ?_; refine Ops.nil (hK _ _ ?_); clear hK K; refine Fin.then ?_; refine St.ret ?_; refine Fin.blockRet ?_; refine Fin.thenRet ?_)
  refine Fin.ret [_] rfl (AllRes.tmp rfl AllRes.nil) rfl rfl
set_option maxHeartbeats 8000000 in
theorem FCheck_unb (hS : Ok Tryz.prog 20 [intC N, rowsC rs, fracsC pt] (boolC true)) (hG : Ok Tryz.prog 109 [intC N, rowsC rs, intsC c, fracsC ray] (boolC true)) :
    Ok Tryz.prog 44 [intC N, rowsC rs, intsC c, ocC ⟨2, frz0, pt, ray, []⟩] (boolC true) := by
  obtain ⟨p1, p2, p3⟩ := FCheck_pre N rs c hv hc
  have hZ := zero_frz
  generalize frz0 = fz at *
  refine Ok.enter Tryz.func44 rfl _ Tryz.ntmps44 rfl ?_
  intro S w
  (refine St.seq ?_; refine St.regionK (fun K hK => ?_); refine Ops.boxN 0 rfl rfl rfl rfl rfl rfl rfl ?_; refine Ops.assign rfl rfl rfl ?_; refine Ops.nil (hK _ _ ?_); clear hK K; refine Fin.then ?_; refine St.seq ?_; refine St.seq ?_; refine St.regionK (fun K hK => ?_); refine Ops.move rfl rfl rfl ?_; refine Ops.move rfl rfl rfl ?_)
  refine Ops.call goLValid p1 rfl rfl rfl rfl ?_
  (refine Ops.inot rfl rfl rfl ?_; refine Ops.move rfl rfl rfl ?_; refine Ops.move rfl rfl rfl ?_; refine Ops.lenF rfl rfl (by with_reducible first | exact sNat.und | exact sInts.und) (List.length_map ..) rfl ?_; refine Ops.move rfl rfl rfl ?_; refine Ops.ibin igtr rfl rfl rfl rfl ?_; refine Ops.pickF rfl rfl rfl rfl ?_; refine Ops.move rfl rfl rfl ?_)
  refine Ops.splitP 21 rfl (fun h => absurd h (by omega)) (fun _ => ?_)
  (refine Ops.move rfl rfl rfl ?_)
  refine Ops.call goContainsFunc_ints p3 rfl rfl rfl rfl ?_
  (refine Ops.pickF rfl rfl rfl rfl ?_; refine Ops.nil (hK _ _ ?_); clear hK K; refine Fin.then ?_; refine St.condF rfl ?_; refine St.skip ?_; refine Fin.then ?_; refine St.seq ?_; refine St.seq ?_; refine St.regionK (fun K hK => ?_); refine Ops.fldO rfl rfl rfl (by with_reducible first | exact fO0 | exact fO1 | exact fO2 | exact fO3 | exact fO4) rfl ?_; refine Ops.ld1A rfl rfl rfl rfl rfl (by with_reducible first | exact lInt | exact lFracs) rfl ?_; refine Ops.nil (hK _ _ ?_); clear hK K; refine Fin.then ?_; refine St.block ?_; refine St.seq ?_; refine St.regionK (fun K hK => ?_); refine Ops.ibin ieql rfl rfl rfl rfl ?_; refine Ops.assign rfl rfl rfl ?_; refine Ops.nil (hK _ _ ?_); clear hK K; refine Fin.then ?_; refine St.condF rfl ?_; refine St.seq ?_; refine St.regionK (fun K hK => ?_); refine Ops.ibin ieql rfl rfl rfl rfl ?_; refine Ops.assign rfl rfl rfl ?_; refine Ops.nil (hK _ _ ?_); clear hK K; refine Fin.then ?_; refine St.condT rfl ?_; refine St.seq ?_; refine St.regionK (fun K hK => ?_); refine Ops.fldO rfl rfl rfl (by with_reducible first | exact fO0 | exact fO1 | exact fO2 | exact fO3 | exact fO4) rfl ?_; refine Ops.ld1A rfl rfl rfl rfl rfl (by with_reducible first | exact lInt | exact lFracs) rfl ?_; refine Ops.lenF rfl rfl (by with_reducible exact sFracs.und) (List.length_map ..) rfl ?_; refine Ops.ibin ieql rfl rfl rfl rfl ?_; refine Ops.move rfl rfl rfl ?_; refine Ops.fldO rfl rfl rfl (by with_reducible first | exact fO0 | exact fO1 | exact fO2 | exact fO3 | exact fO4) rfl ?_; refine Ops.ldNA (n := 3) rfl rfl rfl rfl (Nat.le_of_ble_eq_true rfl) (by with_reducible exact lFrac) rfl ?_)
  refine Ops.call gozero hZ rfl rfl rfl rfl ?_
  (refine Ops.pickT rfl rfl rfl rfl ?_; refine Ops.move rfl rfl rfl ?_; refine Ops.move rfl rfl rfl ?_; refine Ops.move rfl rfl rfl ?_; refine Ops.fldO rfl rfl rfl (by with_reducible first | exact fO0 | exact fO1 | exact fO2 | exact fO3 | exact fO4) rfl ?_; refine Ops.ld1A rfl rfl rfl rfl rfl (by with_reducible first | exact lInt | exact lFracs) rfl ?_)
  refine Ops.call goSatisfies hS rfl rfl rfl rfl ?_
  (refine Ops.pickT rfl rfl rfl rfl ?_; refine Ops.move rfl rfl rfl ?_; refine Ops.move rfl rfl rfl ?_; refine Ops.move rfl rfl rfl ?_; refine Ops.move rfl rfl rfl ?_; refine Ops.fldO rfl rfl rfl (by with_reducible first | exact fO0 | exact fO1 | exact fO2 | exact fO3 | exact fO4) rfl ?_; refine Ops.ld1A rfl rfl rfl rfl rfl (by with_reducible first | exact lInt | exact lFracs) rfl ?_)
  refine Ops.call gogrows hG rfl rfl rfl rfl ?_
  (refine Ops.pickT rfl rfl rfl rfl ?_; refine Ops.assign rfl rfl rfl ?_; refine Ops.nil (hK _ _ ?_); clear hK K; refine Fin.then ?_; refine St.ret ?_; refine Fin.blockRet ?_; refine Fin.thenRet ?_)
  refine Fin.ret [_] rfl (AllRes.tmp rfl AllRes.nil) rfl rfl
set_option maxHeartbeats 8000000 in
theorem FCheck_emp (hR : Ok Tryz.prog 49 [intC N, rowsC rs, fracsC du] (boolC true)) :
    Ok Tryz.prog 44 [intC N, rowsC rs, intsC c, ocC ⟨3, frz0, [], [], du⟩] (boolC true) := by
  obtain ⟨p1, p2, p3⟩ := FCheck_pre N rs c hv hc
  have hZ := zero_frz
  generalize frz0 = fz at *
  refine Ok.enter Tryz.func44 rfl _ Tryz.ntmps44 rfl ?_
  intro S w
  (refine St.seq ?_; refine St.regionK (fun K hK => ?_); refine Ops.boxN 0 rfl rfl rfl rfl rfl rfl rfl ?_; refine Ops.assign rfl rfl rfl ?_; refine Ops.nil (hK _ _ ?_); clear hK K; refine Fin.then ?_; refine St.seq ?_; refine St.seq ?_; refine St.regionK (fun K hK => ?_); refine Ops.move rfl rfl rfl ?_; refine Ops.move rfl rfl rfl ?_)
  refine Ops.call goLValid p1 rfl rfl rfl rfl ?_
  (refine Ops.inot rfl rfl rfl ?_; refine Ops.move rfl rfl rfl ?_; refine Ops.move rfl rfl rfl ?_; refine Ops.lenF rfl rfl (by with_reducible first | exact sNat.und | exact sInts.und) (List.length_map ..) rfl ?_; refine Ops.move rfl rfl rfl ?_; refine Ops.ibin igtr rfl rfl rfl rfl ?_; refine Ops.pickF rfl rfl rfl rfl ?_; refine Ops.move rfl rfl rfl ?_)
  refine Ops.splitP 21 rfl (fun h => absurd h (by omega)) (fun _ => ?_)
  (refine Ops.move rfl rfl rfl ?_)
  refine Ops.call goContainsFunc_ints p3 rfl rfl rfl rfl ?_
  (refine Ops.pickF rfl rfl rfl rfl ?_; refine Ops.nil (hK _ _ ?_); clear hK K; refine Fin.then ?_; refine St.condF rfl ?_; refine St.skip ?_; refine Fin.then ?_; refine St.seq ?_; refine St.seq ?_; refine St.regionK (fun K hK => ?_); refine Ops.fldO rfl rfl rfl (by with_reducible first | exact fO0 | exact fO1 | exact fO2 | exact fO3 | exact fO4) rfl ?_; refine Ops.ld1A rfl rfl rfl rfl rfl (by with_reducible first | exact lInt | exact lFracs) rfl ?_; refine Ops.nil (hK _ _ ?_); clear hK K; refine Fin.then ?_; refine St.block ?_; refine St.seq ?_; refine St.regionK (fun K hK => ?_); refine Ops.ibin ieql rfl rfl rfl rfl ?_; refine Ops.assign rfl rfl rfl ?_; refine Ops.nil (hK _ _ ?_); clear hK K; refine Fin.then ?_; refine St.condF rfl ?_; refine St.seq ?_; refine St.regionK (fun K hK => ?_); refine Ops.ibin ieql rfl rfl rfl rfl ?_; refine Ops.assign rfl rfl rfl ?_; refine Ops.nil (hK _ _ ?_); clear hK K; refine Fin.then ?_; refine St.condF rfl ?_; refine St.seq ?_; refine St.regionK (fun K hK => ?_); refine Ops.ibin ieql rfl rfl rfl rfl ?_; refine Ops.assign rfl rfl rfl ?_; refine Ops.nil (hK _ _ ?_); clear hK K; refine Fin.then ?_; refine St.condT rfl ?_; refine St.seq ?_; refine St.regionK (fun K hK => ?_); refine Ops.fldO rfl rfl rfl (by with_reducible first | exact fO0 | exact fO1 | exact fO2 | exact fO3 | exact fO4) rfl ?_; refine Ops.ld1A rfl rfl rfl rfl rfl (by with_reducible first | exact lInt | exact lFracs) rfl ?_; refine Ops.lenF rfl rfl (by with_reducible exact sFracs.und) (List.length_map ..) rfl ?_; refine Ops.ibin ieql rfl rfl rfl rfl ?_; refine Ops.move rfl rfl rfl ?_; refine Ops.fldO rfl rfl rfl (by with_reducible first | exact fO0 | exact fO1 | exact fO2 | exact fO3 | exact fO4) rfl ?_; refine Ops.ld1A rfl rfl rfl rfl rfl (by with_reducible first | exact lInt | exact lFracs) rfl ?_; refine Ops.lenF rfl rfl (by with_reducible exact sFracs.und) (List.length_map ..) rfl ?_; refine Ops.ibin ieql rfl rfl rfl rfl ?_; refine Ops.pickT rfl rfl rfl rfl ?_; refine Ops.move rfl rfl rfl ?_; refine Ops.fldO rfl rfl rfl (by with_reducible first | exact fO0 | exact fO1 | exact fO2 | exact fO3 | exact fO4) rfl ?_; refine Ops.ldNA (n := 3) rfl rfl rfl rfl (Nat.le_of_ble_eq_true rfl) (by with_reducible exact lFrac) rfl ?_)
  refine Ops.call gozero hZ rfl rfl rfl rfl ?_
  (refine Ops.pickT rfl rfl rfl rfl ?_; refine Ops.move rfl rfl rfl ?_; refine Ops.move rfl rfl rfl ?_; refine Ops.move rfl rfl rfl ?_; refine Ops.fldO rfl rfl rfl (by with_reducible first | exact fO0 | exact fO1 | exact fO2 | exact fO3 | exact fO4) rfl ?_; refine Ops.ld1A rfl rfl rfl rfl rfl (by with_reducible first | exact lInt | exact lFracs) rfl ?_)
  refine Ops.call goRefutes hR rfl rfl rfl rfl ?_
  (refine Ops.pickT rfl rfl rfl rfl ?_; refine Ops.assign rfl rfl rfl ?_; refine Ops.nil (hK _ _ ?_); clear hK K; refine Fin.then ?_; refine St.ret ?_; refine Fin.blockRet ?_; refine Fin.thenRet ?_)
  refine Fin.ret [_] rfl (AllRes.tmp rfl AllRes.nil) rfl rfl
end
end Go.Proofs.YtdhmbgogmoaofaaGreat
namespace Go.Proofs.YtdhmbgogmoaofaaGreat
open Go.Own Go.Limbs Go.Det
theorem ptl_mem {n : Nat} {X : Nat → Int} {D : Int} {f : Fr} (h : f ∈ ptl n X D) : ∃ k, k < n ∧ f = ofQ (shq (X k) D) := by
  obtain ⟨k, hk, rfl⟩ := List.mem_map.1 h
  exact ⟨k, List.mem_range.1 hk, rfl⟩
theorem ofQ_neg0 {q : Rat} (h : 0 ≤ q.num) : (ofQ q).neg = false := decide_eq_false (by omega)
theorem Kt9 {m : Nat} (h : m ≤ 6) : Kt m < 1073741824 ^ 9 := by
  have : m = 0 ∨ m = 1 ∨ m = 2 ∨ m = 3 ∨ m = 4 ∨ m = 5 ∨ m = 6 := by omega
  rcases this with rfl | rfl | rfl | rfl | rfl | rfl | rfl <;> decide +kernel
theorem F9.shq {a D : Int} {m : Nat} (hm : m ≤ 6) (hD : 0 < D) (h1 : D.natAbs ≤ Kt m) (h2 : a.natAbs ≤ Kt m) : F9 (ofQ (shq a D)) := by
  obtain ⟨l1, l2⟩ := mk_le a D.natAbs (by omega)
  have := Kt9 hm
  exact ⟨Nat.lt_of_le_of_lt l1 (by omega), Nat.lt_of_le_of_lt l2 (by omega), ofQ_den _, fun h => by
    have : (Go.Proofs.YtdhmbgogmoaofaaGreat.shq a D).num < 0 := of_decide_eq_true h
    show (Go.Proofs.YtdhmbgogmoaofaaGreat.shq a D).num.natAbs ≠ 0
    omega⟩
section
variable {n : Nat} {rs : List Rw} {D : Int} {X : Nat → Int}
theorem ptl_F9 {k m : Nat} (hm : m ≤ 6) (hD : 0 < D) (b1 : D.natAbs ≤ Kt m) (b2 : ∀ v, v < k → (X v).natAbs ≤ Kt m) : ∀ f ∈ ptl k X D, F9 f := fun f hf => by
  obtain ⟨v, hv, rfl⟩ := ptl_mem hf
  exact F9.shq hm hD b1 (b2 v hv)
theorem ptl_nn {k : Nat} (hD : 0 < D) (h : ∀ v, v < k → 0 ≤ X v) : ∀ f ∈ ptl k X D, f.neg = false := fun f hf => by
  obtain ⟨v, hv, rfl⟩ := ptl_mem hf
  exact ofQ_neg0 ((shq_num_sign hD).1 (h v hv))
theorem sat_ptl (hv : validR n rs = true) (hX : Feas n rs D X) : satB n rs (ptl n X D) = true := by
  obtain ⟨v1, v2, v3, v4⟩ := validR_spec hv
  unfold satB
  rw [hv, ptl_len, decide_eq_true rfl, List.any_eq_false.2 fun f hf => by rw [ptl_nn hX.den hX.nn f hf]; decide, List.all_eq_true.2 fun r hr => ?_]
  · rfl
  · obtain ⟨i, hi, rfl⟩ := List.getElem_of_mem hr
    have e : rs.getD i rw0 = rs[i] := by simp [List.getD_eq_getElem?_getD, List.getElem?_eq_getElem hi]
    have h1 := hX.row i hi
    unfold ca cb at h1
    rw [e] at h1
    rw [decide_eq_true_eq, cmpQ_le_iff, vsum_ptl _ _ _ _ (by have := (v4 _ hr).1; omega)]
    exact shq_le_int hX.den h1
theorem mul_ptl {Y : Nat → Int} (hv : validR n rs = true) (hl : rs.length ≤ 6) (hD : 0 < D) (h : ∀ i, i < rs.length → 0 ≤ Y i) (b1 : D.natAbs ≤ Kt rs.length) (b2 : ∀ i, i < rs.length → (Y i).natAbs ≤ Kt rs.length) : Mul n rs (ptl rs.length Y D) := by
  obtain ⟨v1, v2, v3, v4⟩ := validR_spec hv
  have hF := ptl_F9 (k := rs.length) hl hD b1 b2
  have key : ∀ num : Rw → Int, (∀ r ∈ rs, (num r).natAbs ≤ 4503599627370496) → VFit (rs.map num) (ptl rs.length Y D) ∧ SzQ (vsum (rs.map num) (ptl rs.length Y D)) := fun num hn => by
    obtain ⟨a1, a2, a3⟩ := vfit9 (rs.map num) (ptl rs.length Y D) (by rw [List.length_map]; omega) (fun i => by
      rcases Nat.lt_or_ge i (rs.map num).length with h4 | h4
      · obtain ⟨r, hr, e⟩ := List.mem_map.1 (getD_mem (z := (0 : Int)) h4)
        have := hn r hr
        rw [← e]; omega
      · rw [getD_ge h4]; decide) (by rw [ptl_len]; omega) hF
    exact ⟨a1, ⟨by omega, by omega⟩⟩
  refine ⟨ptl_len .., fun f hf => (hF f hf).vf, ptl_nn hD h, fun j hj => key _ fun r hr => ?_, key _ fun r hr => (v4 r hr).2.2⟩
  rcases Nat.lt_or_ge j r.cs.length with h4 | h4
  · have := (v4 r hr).2.1 _ (getD_mem (z := (0 : Int)) h4); omega
  · rw [getD_ge h4]; decide
theorem getD_mapZ {α : Type} (f : α → Int) (z : α) {xs : List α} {k : Nat} (h : k < xs.length) : (xs.map f).getD k 0 = f (xs.getD k z) := by
  simp [List.getD_eq_getElem?_getD, List.getElem?_map, List.getElem?_eq_getElem h]
theorem colQ_ptl {Y : Nat → Int} (j : Nat) : colQ rs (ptl rs.length Y D) j = shq (sm (fun i => ca rs i j * Y i) rs.length) D := by
  unfold colQ
  rw [vsum_ptl _ _ _ _ (by simp)]
  congr 1
  exact sm_congr fun i hi => by rw [getD_mapZ (fun r => r.cs.getD j 0) rw0 hi]; rfl
theorem bsQ_ptl {Y : Nat → Int} : bsQ rs (ptl rs.length Y D) = shq (sm (fun i => cb rs i * Y i) rs.length) D := by
  unfold bsQ
  rw [vsum_ptl _ _ _ _ (by simp)]
  congr 1
  exact sm_congr fun i hi => by rw [getD_mapZ (fun r => r.b) rw0 hi]; rfl
theorem cov_ptl {Y : Nat → Int} (c : List Int) (hD : 0 < D) (hc : c.length ≤ n) (h : ∀ j, j < n → D * c.getD j 0 ≤ sm (fun i => ca rs i j * Y i) rs.length) : covQ (colsQ rs (ptl rs.length Y D) n) c = true := by
  have hl : (colsQ rs (ptl rs.length Y D) n).length = n := by simp [colsQ]
  unfold covQ
  rw [hl, decide_eq_true hc, List.all_eq_true.2 fun j hj => ?_]
  · rfl
  · have hj := List.mem_range.1 hj
    have e : (colsQ rs (ptl rs.length Y D) n).getD j 0 = colQ rs (ptl rs.length Y D) j := by
      unfold colsQ
      simp [List.getD_eq_getElem?_getD, List.getElem?_map, hj]
    rw [e, colQ_ptl, Bool.not_eq_true', decide_eq_false_iff_not, cmpQ_neg, Rat.not_lt]
    exact int_le_shq hD (h j hj)
end
end Go.Proofs.YtdhmbgogmoaofaaGreat
namespace Go.Proofs.YtdhmbgogmoaofaaGreat
open Go.Own Go.Limbs
attribute [local irreducible] St Ops Go.Own.Fin Ok
theorem FCheck_sol {N : Nat} {rs : List Rw} {c : List Int} {O : Oc} (hv : validR N rs = true) (hc : okCoeffs N c = true) (hn : N ≤ 6) (hl : rs.length ≤ 6) (h : Sol N rs c O) :
    Ok Tryz.prog 44 [intC N, rowsC rs, intsC c, ocC O] (boolC true) := by
  obtain ⟨v1, v2, v3, v4⟩ := validR_spec hv
  have hcc : c.length ≤ N ∧ ∀ y ∈ c, y.natAbs ≤ 1048576 := by
    have hc := hc
    unfold okCoeffs at hc
    simp only [Bool.and_eq_true, decide_eq_true_eq, Bool.not_eq_true'] at hc
    refine ⟨by omega, fun y hy => ?_⟩
    have := List.any_eq_false.1 hc.2 y hy
    unfold badC at this
    simp only [Bool.or_eq_true, decide_eq_true_eq] at this
    omega
  obtain ⟨cl, cb'⟩ := hcc
  have cbb : ∀ i, -9223372036854775808 ≤ c.getD i 0 ∧ c.getD i 0 ≤ 9223372036854775807 := fun i => by
    rcases Nat.lt_or_ge i c.length with h4 | h4
    · have := cb' _ (getD_mem (z := (0 : Int)) h4); omega
    · rw [getD_ge h4]; decide
  have sat : ∀ {D : Int} {X : Nat → Int}, Feas N rs D X → D.natAbs ≤ Kt rs.length → (∀ v, v < N → (X v).natAbs ≤ Kt rs.length) → Ok Tryz.prog 20 [intC N, rowsC rs, fracsC (ptl N X D)] (boolC true) := fun {D X} hX b1 b2 => by
    have hF := ptl_F9 hl hX.den b1 b2
    have := Satisfies_gen N rs (ptl N X D) (by omega) (fun r hr => by have := (v4 r hr).1; omega) (by rw [ptl_len]; omega) (fun f hf => (hF f hf).vf) (fun _ _ => sfit9 N rs _ hv (by rw [ptl_len]; omega) hF)
    rw [sat_ptl hv hX] at this
    exact this
  cases h with
  | opt D X Y val hX hv' hY hw b1 b2 b3 b4 =>
    have hF := ptl_F9 hl hX.den b1 b2
    have hM := mul_ptl hv hl hY.den hY.nn b1 b3
    have f1 := vfit9 c (ptl N X D) (by omega) cbb (by rw [ptl_len]; omega) hF
    have e1 := vsum_ptl c N X D cl
    rw [hv'] at e1
    rw [e1] at f1
    have hV := Value_gen c (ptl N X D) f1.1
    rw [e1] at hV
    have hs : SzQ (shq val D) := (F9.shq hl hX.den b1 b4).vf.szq
    have hB := Bounds_gen N rs c _ (shq val D) hv hM (by omega) (fun y hy => by have := cb' y hy; omega) hs
    rw [cov_ptl c hY.den cl hY.col, bsQ_ptl, hw, cmpQ_self] at hB
    exact FCheck_opt N rs c _ _ hv hc _ (sat hX b1 b2) hV hs hB
  | unb D X Z hX hZ b1 b2 b3 =>
    have hF := ptl_F9 hl hZ.den b1 b3
    have f1 := vfit9 c (ptl N Z D) (by omega) cbb (by rw [ptl_len]; omega) hF
    have hS := sfit9 N rs _ hv (by rw [ptl_len]; omega) hF
    have hG := grows_gen N rs c (ptl N Z D) (ptl_len ..) (by omega) (by omega) (fun f hf => (hF f hf).vf) (ptl_nn hZ.den hZ.nn) hS.v f1.1
    have e : growB rs c (ptl N Z D) = true := by
      unfold growB
      rw [List.all_eq_true.2 fun r hr => ?_, vsum_ptl c N Z D cl, decide_eq_true ((shq_num_sign hZ.den).2.2 hZ.goal)]
      · rfl
      · obtain ⟨i, hi, rfl⟩ := List.getElem_of_mem hr
        have e : rs.getD i rw0 = rs[i] := by simp [List.getD_eq_getElem?_getD, List.getElem?_eq_getElem hi]
        have h1 := hZ.row i hi
        unfold ca at h1
        rw [e] at h1
        rw [vsum_ptl _ _ _ _ (by have := (v4 _ hr).1; omega), Bool.not_eq_true', decide_eq_false_iff_not]
        intro h2
        have := (shq_num_sign hZ.den (a := Go.Det.sm (fun j => rs[i].cs.getD j 0 * Z j) N)).1
        have h3 : ¬ 0 < Go.Det.sm (fun j => rs[i].cs.getD j 0 * Z j) N := by omega
        rcases Int.lt_or_eq_of_le h1 with h4 | h4
        · have := (shq_num_sign hZ.den).2.1 h4; omega
        · rw [h4, shq_zero] at h2; exact absurd h2 (by decide)
    rw [e] at hG
    exact FCheck_unb N rs c _ _ hv hc (sat hX b1 b2) hG
  | emp D Y hY b1 b3 =>
    have hM := mul_ptl hv hl hY.den hY.nn b1 b3
    have hR := Refutes_gen N rs _ hv hM
    rw [cov_ptl [] hY.den (Nat.zero_le _) (fun j hj => by rw [show ([] : List Int).getD j 0 = 0 by simp, Int.mul_zero]; exact hY.col j hj), bsQ_ptl, decide_eq_true ((shq_num_sign hY.den).2.1 hY.neg)] at hR
    exact FCheck_emp N rs c _ hv hc hR
end Go.Proofs.YtdhmbgogmoaofaaGreat
namespace Go.Proofs.YtdhmbgogmoaofaaGreat
open Go.Own Go.Limbs
attribute [local irreducible] St Ops Go.Own.Fin Ok
theorem tf_lend (m : Int) : (limbs (tf m).den).length ≤ 1000 := Nat.le_trans (tf_szd m) (by decide)
end Go.Proofs.YtdhmbgogmoaofaaGreat
namespace Go.Proofs.YtdhmbgogmoaofaaGreat
open Go.Own Go.Limbs
attribute [local irreducible] St Ops Go.Own.Fin Ok OkB OkN wpA
theorem gowhole : InGo Tryz.prog 46 := InGo.of Tryz.func46 rfl (by decide)
set_option maxHeartbeats 2000000 in
theorem lwhole_ok (n : Int) (h1 : -9223372036854775808 ≤ n) (h2 : n ≤ 9223372036854775807) : Ok Tryz.prog 46 [intC n] (twC (12 * n)) := by
  have hF := rFrom_ok n 1 h1 h2 (by decide) (by decide) (by decide)
  rw [tw_one] at hF
  have hF : Ok Tryz.prog 57 [intC n, intC 1] (.fr (tupT [twC (12 * n), intC 0])) := hF
  refine Ok.enter Tryz.func46 rfl _ Tryz.ntmps46 rfl ?_
  intro S w
  (refine St.seq ?_; refine St.regionK (fun K hK => ?_); refine Ops.alloc 0 rfl rfl (by with_reducible first | exact zvFrac) rfl rfl rfl ?_; refine Ops.nil (hK _ _ ?_); clear hK K; refine Fin.then ?_; refine St.seq ?_; refine St.regionK (fun K hK => ?_); refine Ops.move rfl rfl rfl ?_)
  refine Ops.call gorFrom hF rfl rfl rfl rfl ?_
  (refine Ops.move rfl rfl rfl ?_; refine Ops.extract rfl rfl rfl rfl ?_; refine Ops.extract rfl rfl rfl rfl ?_; refine Ops.alloc 1 rfl rfl (by with_reducible first | exact zvFrac) rfl rfl rfl ?_; refine Ops.stWN 3 rfl rfl rfl rfl rfl (by with_reducible exact szFrac) rfl rfl ?_; refine Ops.assign rfl rfl rfl ?_; refine Ops.nil (hK _ _ ?_); clear hK K; refine Fin.then ?_; refine St.seq ?_; refine St.regionK (fun K hK => ?_); refine Ops.ldNO (n := 3) rfl rfl rfl rfl rfl (by with_reducible exact lFrac) rfl ?_; refine Ops.stWN 3 rfl rfl rfl rfl rfl (by with_reducible exact szFrac) rfl rfl ?_; refine Ops.nil (hK _ _ ?_); clear hK K; refine Fin.then ?_; refine St.ret ?_)
  refine Fin.ret [_] rfl (AllRes.cellN (n := 3) rfl rfl (by with_reducible exact lFrac) rfl AllRes.nil) rfl rfl
theorem goEqual : InGo Tryz.prog 19 := InGo.of Tryz.func19 rfl (by decide)
set_option maxHeartbeats 4000000 in
theorem Equal_refl (f : Fr) (hn : (limbs f.num).length ≤ 1000) (hd : (limbs f.den).length ≤ 1000) : Ok Tryz.prog 19 [fracC f, fracC f] (boolC true) := by
  refine Ok.enter Tryz.func19 rfl _ Tryz.ntmps19 rfl ?_
  intro S w
  (refine St.seq ?_; refine St.regionK (fun K hK => ?_); refine Ops.boxN 0 rfl rfl rfl rfl rfl rfl rfl ?_; refine Ops.boxN 1 rfl rfl rfl rfl rfl rfl rfl ?_; refine Ops.assign rfl rfl rfl ?_; refine Ops.nil (hK _ _ ?_); clear hK K; refine Fin.then ?_; refine St.seq ?_; refine St.seq ?_; refine St.regionK (fun K hK => ?_); refine Ops.fldO rfl rfl rfl (by with_reducible first | exact fF0 | exact fF1 | exact fF2 | exact fR0 | exact fR1) rfl ?_; refine Ops.ld1A rfl rfl rfl rfl rfl (by with_reducible first | exact lInt | exact lNat | exact lBool | exact lInts) rfl ?_; refine Ops.fldO rfl rfl rfl (by with_reducible first | exact fF0 | exact fF1 | exact fF2 | exact fR0 | exact fR1) rfl ?_; refine Ops.ld1A rfl rfl rfl rfl rfl (by with_reducible first | exact lInt | exact lNat | exact lBool | exact lInts) rfl ?_)
  refine Ops.bne rfl rfl rfl (by with_reducible exact uBool) rfl ?_
  (refine Ops.move rfl rfl rfl ?_)
  refine Ops.splitP 12 rfl (fun h => absurd rfl h) (fun _ => ?_)
  (refine Ops.fldO rfl rfl rfl (by with_reducible first | exact fF0 | exact fF1 | exact fF2 | exact fR0 | exact fR1) rfl ?_; refine Ops.ld1A rfl rfl rfl rfl rfl (by with_reducible first | exact lInt | exact lNat | exact lBool | exact lInts) rfl ?_; refine Ops.lenF rfl rfl (by with_reducible first | exact sNat.und | exact sInts.und) (List.length_map ..) rfl ?_; refine Ops.fldO rfl rfl rfl (by with_reducible first | exact fF0 | exact fF1 | exact fF2 | exact fR0 | exact fR1) rfl ?_; refine Ops.ld1A rfl rfl rfl rfl rfl (by with_reducible first | exact lInt | exact lNat | exact lBool | exact lInts) rfl ?_; refine Ops.lenF rfl rfl (by with_reducible first | exact sNat.und | exact sInts.und) (List.length_map ..) rfl ?_; refine Ops.ibin ineq rfl rfl rfl rfl ?_; refine Ops.pickF rfl rfl rfl rfl ?_; refine Ops.move rfl rfl rfl ?_)
  refine Ops.splitP 21 rfl (fun h => absurd rfl h) (fun _ => ?_)
  (refine Ops.fldO rfl rfl rfl (by with_reducible first | exact fF0 | exact fF1 | exact fF2 | exact fR0 | exact fR1) rfl ?_; refine Ops.ld1A rfl rfl rfl rfl rfl (by with_reducible first | exact lInt | exact lNat | exact lBool | exact lInts) rfl ?_; refine Ops.lenF rfl rfl (by with_reducible first | exact sNat.und | exact sInts.und) (List.length_map ..) rfl ?_; refine Ops.fldO rfl rfl rfl (by with_reducible first | exact fF0 | exact fF1 | exact fF2 | exact fR0 | exact fR1) rfl ?_; refine Ops.ld1A rfl rfl rfl rfl rfl (by with_reducible first | exact lInt | exact lNat | exact lBool | exact lInts) rfl ?_; refine Ops.lenF rfl rfl (by with_reducible first | exact sNat.und | exact sInts.und) (List.length_map ..) rfl ?_; refine Ops.ibin ineq rfl rfl rfl rfl ?_; refine Ops.pickF rfl rfl rfl rfl ?_; refine Ops.nil (hK _ _ ?_); clear hK K; refine Fin.then ?_)
  refine St.condP rfl (fun h => absurd rfl h) (fun _ => ?_)
  (refine St.skip ?_; refine Fin.then ?_; refine St.seq ?_; refine St.seq ?_; refine St.regionK (fun K hK => ?_); refine Ops.assign rfl rfl rfl ?_; refine Ops.nil (hK _ _ ?_); clear hK K; refine Fin.then ?_; refine St.block ?_)
  refine St.loop (α := Nat) (fun k => k ≤ (limbs f.num).length)
    (fun k => [(2, .own 0), (3, .own 1), (5, .ct (intC k))]) (fun _ => [(1, .box 38 (frCs f)), (0, .box 38 (frCs f))]) (fun k => (limbs f.num).length - k) 0 (Nat.zero_le _) (by exact Entails.of rfl ⟨rfl, rfl, rfl, trivial⟩) ?_
  intro k hk
  dsimp only at hk ⊢
  (refine St.seq ?_; refine St.seq ?_; refine St.regionK (fun K hK => ?_); refine Ops.move rfl rfl rfl ?_; refine Ops.fldO rfl rfl rfl (by with_reducible first | exact fF0 | exact fF1 | exact fF2 | exact fR0 | exact fR1) rfl ?_; refine Ops.ld1A rfl rfl rfl rfl rfl (by with_reducible first | exact lInt | exact lNat | exact lBool | exact lInts) rfl ?_; refine Ops.lenF rfl rfl (by with_reducible first | exact sNat.und | exact sInts.und) (List.length_map ..) rfl ?_; refine Ops.ibin ilss rfl rfl rfl rfl ?_; refine Ops.nil (hK _ _ ?_); clear hK K; refine Fin.then ?_)
  refine St.condP rfl (fun h => ?_) (fun h => ?_)
  · (refine St.skip ?_; refine Fin.then ?_; refine St.seq ?_; refine St.block ?_; refine St.seq ?_)
    refine St.drawK (by with_reducible exact mixed) 11 (.p 0 (.p 2 (.p 5 (.p 7 (.f 1 (.p 3 (.f 4 (.f 6 (.p 8 (.f 9 (.p 10 .done))))))))))) (by kernel_rfl) (fun K hK => ?_)
    (refine Ops.fldO rfl rfl rfl (by with_reducible first | exact fF0 | exact fF1 | exact fF2 | exact fR0 | exact fR1) rfl ?_; refine Ops.move rfl rfl rfl ?_; refine Ops.fldO rfl rfl rfl (by with_reducible first | exact fF0 | exact fF1 | exact fF2 | exact fR0 | exact fR1) rfl ?_; refine Ops.move rfl rfl rfl ?_; refine Ops.ld1A rfl rfl rfl rfl rfl (by with_reducible first | exact lInt | exact lNat | exact lBool | exact lInts) rfl ?_; refine Ops.idxF rfl rfl rfl (by with_reducible first | exact sNat | exact sInts) (by omega) (ints_at (by omega) (by omega)) rfl ?_; refine Ops.ld1F rfl rfl rfl (by with_reducible first | exact lInt | exact lNat | exact lBool | exact lInts) rfl ?_; refine Ops.ld1A rfl rfl rfl rfl rfl (by with_reducible first | exact lInt | exact lNat | exact lBool | exact lInts) rfl ?_; refine Ops.idxF rfl rfl rfl (by with_reducible first | exact sNat | exact sInts) (by omega) (ints_at (by omega) (by omega)) rfl ?_; refine Ops.ld1F rfl rfl rfl (by with_reducible first | exact lInt | exact lNat | exact lBool | exact lInts) rfl ?_; refine Ops.ibin ineq rfl rfl rfl rfl ?_; refine Ops.nil (hK _ _ ?_); clear hK K; refine Fin.then ?_)
    refine St.condP rfl (fun h => absurd rfl h) (fun _ => ?_)
    (refine St.skip ?_; refine Fin.then ?_; refine St.regionK (fun K hK => ?_); refine Ops.move rfl rfl rfl ?_; refine Ops.ibin (iadd (by omega) (by omega)) rfl rfl rfl rfl ?_; refine Ops.assign rfl rfl rfl ?_; refine Ops.nil (hK _ _ ?_); clear hK K; refine Fin.thenN ?_)
    refine Fin.next (k + 1) (by omega) (by omega) (by exact Entails.of rfl ⟨rfl, rfl, by simp only [Int.natCast_add]; rfl, trivial⟩)
  · (refine St.exit ?_; refine Fin.then ?_; refine St.seq ?_; refine St.seq ?_; refine St.regionK (fun K hK => ?_); refine Ops.assign rfl rfl rfl ?_; refine Ops.nil (hK _ _ ?_); clear hK K; refine Fin.then ?_; refine St.block ?_)
    refine St.loop (α := Nat) (fun k => k ≤ (limbs f.den).length)
      (fun k => [(2, .own 0), (3, .own 1), (6, .ct (intC k))]) (fun _ => [(1, .box 38 (frCs f)), (0, .box 38 (frCs f))]) (fun k => (limbs f.den).length - k) 0 (Nat.zero_le _) (by exact Entails.of rfl ⟨rfl, rfl, rfl, trivial⟩) ?_
    intro k hk
    dsimp only at hk ⊢
    (refine St.seq ?_; refine St.seq ?_; refine St.regionK (fun K hK => ?_); refine Ops.move rfl rfl rfl ?_; refine Ops.fldO rfl rfl rfl (by with_reducible first | exact fF0 | exact fF1 | exact fF2 | exact fR0 | exact fR1) rfl ?_; refine Ops.ld1A rfl rfl rfl rfl rfl (by with_reducible first | exact lInt | exact lNat | exact lBool | exact lInts) rfl ?_; refine Ops.lenF rfl rfl (by with_reducible first | exact sNat.und | exact sInts.und) (List.length_map ..) rfl ?_; refine Ops.ibin ilss rfl rfl rfl rfl ?_; refine Ops.nil (hK _ _ ?_); clear hK K; refine Fin.then ?_)
    refine St.condP rfl (fun h => ?_) (fun h => ?_)
    · (refine St.skip ?_; refine Fin.then ?_; refine St.seq ?_; refine St.block ?_; refine St.seq ?_)
      refine St.drawK (by with_reducible exact mixed) 11 (.p 0 (.p 2 (.p 5 (.p 7 (.f 1 (.p 3 (.f 4 (.f 6 (.p 8 (.f 9 (.p 10 .done))))))))))) (by kernel_rfl) (fun K hK => ?_)
      (refine Ops.fldO rfl rfl rfl (by with_reducible first | exact fF0 | exact fF1 | exact fF2 | exact fR0 | exact fR1) rfl ?_; refine Ops.move rfl rfl rfl ?_; refine Ops.fldO rfl rfl rfl (by with_reducible first | exact fF0 | exact fF1 | exact fF2 | exact fR0 | exact fR1) rfl ?_; refine Ops.move rfl rfl rfl ?_; refine Ops.ld1A rfl rfl rfl rfl rfl (by with_reducible first | exact lInt | exact lNat | exact lBool | exact lInts) rfl ?_; refine Ops.idxF rfl rfl rfl (by with_reducible first | exact sNat | exact sInts) (by omega) (ints_at (by omega) (by omega)) rfl ?_; refine Ops.ld1F rfl rfl rfl (by with_reducible first | exact lInt | exact lNat | exact lBool | exact lInts) rfl ?_; refine Ops.ld1A rfl rfl rfl rfl rfl (by with_reducible first | exact lInt | exact lNat | exact lBool | exact lInts) rfl ?_; refine Ops.idxF rfl rfl rfl (by with_reducible first | exact sNat | exact sInts) (by omega) (ints_at (by omega) (by omega)) rfl ?_; refine Ops.ld1F rfl rfl rfl (by with_reducible first | exact lInt | exact lNat | exact lBool | exact lInts) rfl ?_; refine Ops.ibin ineq rfl rfl rfl rfl ?_; refine Ops.nil (hK _ _ ?_); clear hK K; refine Fin.then ?_)
      refine St.condP rfl (fun h => absurd rfl h) (fun _ => ?_)
      (refine St.skip ?_; refine Fin.then ?_; refine St.regionK (fun K hK => ?_); refine Ops.move rfl rfl rfl ?_; refine Ops.ibin (iadd (by omega) (by omega)) rfl rfl rfl rfl ?_; refine Ops.assign rfl rfl rfl ?_; refine Ops.nil (hK _ _ ?_); clear hK K; refine Fin.thenN ?_)
      refine Fin.next (k + 1) (by omega) (by omega) (by exact Entails.of rfl ⟨rfl, rfl, by simp only [Int.natCast_add]; rfl, trivial⟩)
    · (refine St.exit ?_; refine Fin.then ?_; refine St.seq ?_; refine St.regionK (fun K hK => ?_); refine Ops.assign rfl rfl rfl ?_; refine Ops.nil (hK _ _ ?_); clear hK K; refine Fin.then ?_; refine St.ret ?_)
      refine Fin.ret [_] rfl (AllRes.tmp rfl AllRes.nil) rfl rfl
end Go.Proofs.YtdhmbgogmoaofaaGreat
namespace Go.Proofs.YtdhmbgogmoaofaaGreat
open Go.Own
attribute [local irreducible] St Ops Go.Own.Fin Ok OkB OkN
theorem sBytes : SlcT Tryz.prog 22 5 1 1 (.int .u8 0) := SlcT.of Tryz.underlying22 (by kernel_rfl) rfl (by decide)
theorem lBytes : Ld1 Tryz.prog 22 := Ld1.of _ Tryz.underlying22 rfl
theorem lU8 : Ld1 Tryz.prog 5 := Ld1.of _ Tryz.underlying5 rfl
theorem uU8 : Tryz.prog.underlying 5 = some (.int .u8) := Tryz.underlying5
theorem uInt : Tryz.prog.underlying 3 = some (.int .i64) := Tryz.underlying3
theorem fC0 : fldInfo Tryz.prog 82 0 = some (0, some 1) := by kernel_rfl
theorem fC1 : fldInfo Tryz.prog 82 1 = some (1, some 1) := by kernel_rfl
theorem bCodes : bInfo Tryz.prog 82 = some (.agg #[.slice none 0 0, .int .i64 0], [(0, some 1), (1, some 1)]) := by kernel_rfl
abbrev bytesC (bs : List Int) : CT := .fr (sliceT 1 (bs.map fun b => [CT.ex (.int .u8 b)]))
abbrev codes (bs : List Int) (p : Nat) : List CT := [bytesC bs, intC p]
structure Bytes (bs : List Int) : Prop where
  lo : ∀ b ∈ bs, 0 ≤ b
  hi : ∀ b ∈ bs, b < 256
  len : bs.length ≤ 400
theorem bytes_at {bs : List Int} {j : Int} (h0 : 0 ≤ j) (h : j < (bs.length : Int)) : (bs.map fun b => [CT.ex (.int .u8 b)])[j.toNat]? = some [CT.ex (.int .u8 (bs.getD j.toNat 0))] := by
  have hl : j.toNat < bs.length := by omega
  rw [List.getElem?_map, List.getElem?_eq_getElem hl, List.getD_eq_getElem?_getD, List.getElem?_eq_getElem hl]; rfl
theorem Bytes.at {bs : List Int} (h : Bytes bs) (j : Nat) : 0 ≤ bs.getD j 0 ∧ bs.getD j 0 < 256 := by
  rw [List.getD_eq_getElem?_getD]
  cases e : bs[j]? with
  | none => simp
  | some b =>
    have := List.mem_of_getElem? e
    exact ⟨h.lo b this, h.hi b this⟩
theorem goNext : InGo Tryz.prog 16 := InGo.of Tryz.func16 rfl (by decide)
set_option maxHeartbeats 2000000 in
theorem Next_ok (bs : List Int) (p : Nat) (n : Int) (h1 : 1 ≤ n) (h2 : n ≤ 256) (hb : Bytes bs) :
    OkB Tryz.prog 16 82 (codes bs p) [intC n] (fun q : Int × Nat => 0 ≤ q.1 ∧ q.1 < n) (fun q => intC q.1) (fun q => codes bs q.2) := by
  have hlen := hb.len
  refine OkB.enter Tryz.func16 rfl _ Tryz.ntmps16 rfl ?_
  intro S w g
  (refine St.seq ?_; refine St.regionK (fun K hK => ?_); refine Ops.assign rfl rfl rfl ?_; refine Ops.nil (hK _ _ ?_); clear hK K; refine Fin.then ?_; refine St.seq ?_; refine St.seq ?_)
  refine St.drawK (by with_reducible exact mixed) 14 (.p 0 (.p 1 (.p 2 (.p 4 (.p 5 (.p 6 (.f 3 (.f 7 (.p 8 (.p 9 (.p 10 (.p 11 (.p 12 (.p 13 .done)))))))))))))) (by kernel_rfl) (fun K hK => ?_)
  (refine Ops.move rfl rfl rfl ?_; refine Ops.nilCheckO rfl rfl rfl rfl ?_; refine Ops.fldO rfl rfl rfl (by with_reducible first | exact fC0 | exact fC1 | exact fR0 | exact fR1) rfl ?_; refine Ops.move rfl rfl rfl ?_; refine Ops.nilCheckO rfl rfl rfl rfl ?_; refine Ops.fldO rfl rfl rfl (by with_reducible first | exact fC0 | exact fC1 | exact fR0 | exact fR1) rfl ?_; refine Ops.ld1A rfl rfl rfl rfl rfl (by with_reducible first | exact lBytes | exact lInt | exact lInts) rfl ?_; refine Ops.ld1A rfl rfl rfl rfl rfl (by with_reducible first | exact lBytes | exact lInt | exact lInts) rfl ?_; refine Ops.lenF rfl rfl (by with_reducible exact sBytes.und) (List.length_map ..) rfl ?_; refine Ops.ibin igeq rfl rfl rfl rfl ?_; refine Ops.move rfl rfl rfl ?_)
  refine Ops.splitP 16 rfl (fun h => ?_) (fun h => ?_)
  · (refine Ops.skip rfl rfl rfl ?_; refine Ops.skip rfl rfl rfl ?_; refine Ops.pickT rfl rfl rfl rfl ?_; refine Ops.nil (hK _ _ ?_); clear hK K; refine Fin.then ?_; refine St.condT rfl ?_; refine St.seq ?_; refine St.regionK (fun K hK => ?_); refine Ops.assign rfl rfl rfl ?_; refine Ops.nil (hK _ _ ?_); clear hK K; refine Fin.then ?_; refine St.ret ?_; refine Fin.thenRet ?_)
    refine Fin.retB (0, p) [_] rfl (AllRes.tmp rfl AllRes.nil) rfl rfl ⟨by show (0 : Int) ≤ 0; omega, by show (0 : Int) < n; omega⟩
  · (refine Ops.move rfl rfl rfl ?_; refine Ops.ibin ilss rfl rfl rfl rfl ?_; refine Ops.pickF rfl rfl rfl rfl ?_; refine Ops.nil (hK _ _ ?_); clear hK K; refine Fin.then ?_)
    refine St.condP rfl (fun h' => ?_) (fun h' => ?_)
    · exact absurd h' (by omega)
    · (refine St.skip ?_; refine Fin.then ?_; refine St.seq ?_)
      refine St.drawK (by with_reducible exact mixed) 12 (.p 0 (.p 1 (.p 2 (.p 4 (.p 5 (.p 6 (.f 3 (.f 7 (.p 8 (.f 9 (.p 10 (.p 11 .done)))))))))))) (by kernel_rfl) (fun K hK => ?_)
      (refine Ops.move rfl rfl rfl ?_; refine Ops.nilCheckO rfl rfl rfl rfl ?_; refine Ops.fldO rfl rfl rfl (by with_reducible first | exact fC0 | exact fC1 | exact fR0 | exact fR1) rfl ?_; refine Ops.move rfl rfl rfl ?_; refine Ops.nilCheckO rfl rfl rfl rfl ?_; refine Ops.fldO rfl rfl rfl (by with_reducible first | exact fC0 | exact fC1 | exact fR0 | exact fR1) rfl ?_; refine Ops.ld1A rfl rfl rfl rfl rfl (by with_reducible first | exact lBytes | exact lInt | exact lInts) rfl ?_; refine Ops.ld1A rfl rfl rfl rfl rfl (by with_reducible first | exact lBytes | exact lInt | exact lInts) rfl ?_; refine Ops.idxF rfl rfl rfl (by with_reducible exact sBytes) (by omega) (bytes_at (by omega) (by omega)) rfl ?_; refine Ops.ld1F rfl rfl rfl (by with_reducible exact lU8) rfl ?_)
      have hx := hb.at p
      generalize he : bs.getD p 0 = x at hx
      refine Ops.conv (q := x) rfl rfl (by with_reducible exact uU8) (by with_reducible exact uInt) (by rw [Int.toNat_natCast, he]; exact wrap_id (by omega) (by omega)) rfl ?_
      (refine Ops.assign rfl rfl rfl ?_; refine Ops.nil (hK _ _ ?_); clear hK K; refine Fin.then ?_; refine St.seq ?_; refine St.regionK (fun K hK => ?_); refine Ops.move rfl rfl rfl ?_; refine Ops.nilCheckO rfl rfl rfl rfl ?_; refine Ops.fldO rfl rfl rfl (by with_reducible first | exact fC0 | exact fC1 | exact fR0 | exact fR1) rfl ?_; refine Ops.ld1A rfl rfl rfl rfl rfl (by with_reducible first | exact lBytes | exact lInt | exact lInts) rfl ?_; refine Ops.ibin (iadd (by omega) (by omega)) rfl rfl rfl rfl ?_; refine Ops.nilCheckO rfl rfl rfl rfl ?_; refine Ops.fldO rfl rfl rfl (by with_reducible first | exact fC0 | exact fC1 | exact fR0 | exact fR1) rfl ?_; refine Ops.st1A rfl rfl rfl rfl rfl (by with_reducible exact zInt) (by simp [Ent.cs]) ?_; refine Ops.nil (hK _ _ ?_); clear hK K; refine Fin.then ?_; refine St.seq ?_; refine St.seq ?_; refine St.regionK (fun K hK => ?_); refine Ops.move rfl rfl rfl ?_; refine Ops.ibin igtr rfl rfl rfl rfl ?_; refine Ops.nil (hK _ _ ?_); clear hK K; refine Fin.then ?_)
      refine St.condP rfl (fun h' => ?_) (fun h' => ?_)
      · exact absurd h' (by omega)
      · (refine St.skip ?_; refine Fin.then ?_; refine St.seq ?_; refine St.regionK (fun K hK => ?_); refine Ops.move rfl rfl rfl ?_; refine Ops.move rfl rfl rfl ?_; refine Ops.ibin (irem (by omega) (by omega)) rfl rfl rfl rfl ?_; refine Ops.assign rfl rfl rfl ?_; refine Ops.nil (hK _ _ ?_); clear hK K; refine Fin.then ?_; refine St.ret ?_)
        refine Fin.retB (x % n, p + 1) [_] rfl (AllRes.tmp rfl AllRes.nil) rfl rfl ⟨Int.emod_nonneg _ (by omega), Int.emod_lt_of_pos _ (by omega)⟩
theorem goNew : InGo Tryz.prog 56 := InGo.of Tryz.func56 rfl (by decide)
theorem New_ok (bs : List Int) : OkN Tryz.prog 56 [bytesC bs, intC 400] 82 (codes (bs.take 400) 0) := by
  refine OkN.enter Tryz.func56 rfl _ Tryz.ntmps56 rfl ?_
  intro S w
  (refine St.seq ?_; refine St.regionK (fun K hK => ?_); refine Ops.assign rfl rfl rfl ?_; refine Ops.nil (hK _ _ ?_); clear hK K; refine Fin.then ?_; refine St.seq ?_; refine St.seq ?_; refine St.regionK (fun K hK => ?_); refine Ops.move rfl rfl rfl ?_; refine Ops.lenF rfl rfl (by with_reducible exact sBytes.und) (List.length_map ..) rfl ?_; refine Ops.move rfl rfl rfl ?_; refine Ops.ibin igtr rfl rfl rfl rfl ?_; refine Ops.nil (hK _ _ ?_); clear hK K; refine Fin.then ?_)
  refine St.condP rfl (fun h' => ?_) (fun h' => ?_)
  · (refine St.regionK (fun K hK => ?_); refine Ops.move rfl rfl rfl ?_; refine Ops.move rfl rfl rfl ?_)
    refine Ops.cutHi rfl rfl rfl (by with_reducible exact sBytes) (by omega) (by rw [List.length_map]; omega) rfl ?_
    rw [← List.map_take]
    (refine Ops.assign rfl rfl rfl ?_; refine Ops.nil (hK _ _ ?_); clear hK K; refine Fin.then ?_; refine St.seq ?_; refine St.regionK (fun K hK => ?_); refine Ops.move rfl rfl rfl ?_)
    refine Ops.build rfl (by with_reducible exact bCodes) rfl (.one rfl rfl rfl rfl .nil) rfl ?_
    (refine Ops.boxN 0 rfl rfl rfl rfl rfl rfl rfl ?_; refine Ops.assign rfl rfl rfl ?_; refine Ops.nil (hK _ _ ?_); clear hK K; refine Fin.then ?_; refine St.ret ?_)
    refine Fin.retN rfl rfl rfl rfl
  · (refine St.skip ?_; refine Fin.then ?_; refine St.seq ?_; refine St.regionK (fun K hK => ?_); refine Ops.move rfl rfl rfl ?_)
    refine Ops.build rfl (by with_reducible exact bCodes) rfl (.one rfl rfl rfl rfl .nil) rfl ?_
    (refine Ops.boxN 0 rfl rfl rfl rfl rfl rfl rfl ?_; refine Ops.assign rfl rfl rfl ?_; refine Ops.nil (hK _ _ ?_); clear hK K; refine Fin.then ?_; refine St.ret ?_)
    refine Fin.retN rfl rfl (by rw [List.take_of_length_le (by omega)]; rfl) rfl
theorem goRoll : InGo Tryz.prog 13 := InGo.of Tryz.func13 rfl (by decide)
theorem Roll_ok (bs : List Int) : OkN Tryz.prog 13 [bytesC bs] 82 (codes (bs.take 400) 0) := by
  refine OkN.enter Tryz.func13 rfl _ Tryz.ntmps13 rfl ?_
  intro S w
  (refine St.seq ?_; refine St.regionK (fun K hK => ?_); refine Ops.assign rfl rfl rfl ?_; refine Ops.nil (hK _ _ ?_); clear hK K; refine Fin.then ?_; refine St.seq ?_; refine St.regionK (fun K hK => ?_); refine Ops.move rfl rfl rfl ?_)
  refine Ops.callN 0 goNew (New_ok bs) rfl rfl rfl rfl rfl rfl ?_
  (refine Ops.assign rfl rfl rfl ?_; refine Ops.nil (hK _ _ ?_); clear hK K; refine Fin.then ?_; refine St.ret ?_)
  refine Fin.retN rfl rfl rfl rfl
theorem goPick : InGo Tryz.prog 27 := InGo.of Tryz.func27 rfl (by decide)
theorem Pick_ok (bs : List Int) (p : Nat) (xs : List Int) (h1 : 1 ≤ xs.length) (h2 : xs.length ≤ 256) (hb : Bytes bs) :
    OkB Tryz.prog 27 82 (codes bs p) [intsC xs] (fun q : Int × Nat => q.1 ∈ xs) (fun q => intC q.1) (fun q => codes bs q.2) := by
  refine OkB.enter Tryz.func27 rfl _ Tryz.ntmps27 rfl ?_
  intro S w g
  (refine St.seq ?_; refine St.regionK (fun K hK => ?_); refine Ops.assign rfl rfl rfl ?_; refine Ops.nil (hK _ _ ?_); clear hK K; refine Fin.then ?_; refine St.seq ?_; refine St.regionK (fun K hK => ?_); refine Ops.move rfl rfl rfl ?_; refine Ops.move rfl rfl rfl ?_; refine Ops.move rfl rfl rfl ?_; refine Ops.lenF rfl rfl (by with_reducible first | exact sNat.und | exact sInts.und) (List.length_map ..) rfl ?_)
  refine Ops.callB goNext (Next_ok bs p xs.length (by omega) (by omega) hb) rfl rfl rfl rfl rfl (fun q hq => ?_)
  obtain ⟨x, p'⟩ := q
  dsimp only at hq
  (refine Ops.idxF rfl rfl rfl (by with_reducible first | exact sNat | exact sInts) (by omega) (ints_at (by omega) (by omega)) rfl ?_; refine Ops.ld1F rfl rfl rfl (by with_reducible first | exact lInt | exact lNat | exact lBool | exact lInts) rfl ?_; refine Ops.assign rfl rfl rfl ?_; refine Ops.nil (hK _ _ ?_); clear hK K; refine Fin.then ?_; refine St.ret ?_)
  refine Fin.retB (xs.getD x.toNat 0, p') [_] rfl (AllRes.tmp rfl AllRes.nil) rfl rfl ?_
  show xs.getD x.toNat 0 ∈ xs
  have hl : x.toNat < xs.length := by omega
  rw [List.getD_eq_getElem?_getD, List.getElem?_eq_getElem hl]
  exact List.getElem_mem hl
end Go.Proofs.YtdhmbgogmoaofaaGreat
namespace Go.Proofs.YtdhmbgogmoaofaaGreat
open Go.Own
attribute [local irreducible] St Ops Go.Own.Fin Ok OkB OkN
theorem goBool : InGo Tryz.prog 24 := InGo.of Tryz.func24 rfl (by decide)
theorem Bool_ok (bs : List Int) (p : Nat) (n : Int) (h1 : 1 ≤ n) (h2 : n ≤ 256) (hb : Bytes bs) :
    OkB Tryz.prog 24 82 (codes bs p) [intC n] (fun _ : Bool × Nat => True) (fun q => boolC q.1) (fun q => codes bs q.2) := by
  refine OkB.enter Tryz.func24 rfl _ Tryz.ntmps24 rfl ?_
  intro S w g
  (refine St.seq ?_; refine St.regionK (fun K hK => ?_); refine Ops.assign rfl rfl rfl ?_; refine Ops.nil (hK _ _ ?_); clear hK K; refine Fin.then ?_; refine St.seq ?_; refine St.regionK (fun K hK => ?_); refine Ops.move rfl rfl rfl ?_; refine Ops.move rfl rfl rfl ?_)
  refine Ops.callB goNext (Next_ok bs p n h1 h2 hb) rfl rfl rfl rfl rfl (fun q hq => ?_)
  obtain ⟨x, p'⟩ := q
  dsimp only at hq
  (refine Ops.move rfl rfl rfl ?_; refine Ops.ibin (isub (by omega) (by omega)) rfl rfl rfl rfl ?_; refine Ops.ibin ieql rfl rfl rfl rfl ?_; refine Ops.assign rfl rfl rfl ?_; refine Ops.nil (hK _ _ ?_); clear hK K; refine Fin.then ?_; refine St.ret ?_)
  refine Fin.retB (decide (x = n - 1), p') [_] rfl (AllRes.tmp rfl AllRes.nil) rfl rfl trivial
end Go.Proofs.YtdhmbgogmoaofaaGreat
namespace Go.Proofs.YtdhmbgogmoaofaaGreat
open Go.Own Go.Limbs
attribute [local irreducible] St Ops Go.Own.Fin Ok OkB OkN wpA
theorem zIntsD : (Tryz.prog.info? 24).map (·.size) = some 1 := by kernel_rfl
theorem bRow : bInfo Tryz.prog 57 = some (.agg #[.slice none 0 0, .int .i64 0], [(0, some 1), (1, some 1)]) := by kernel_rfl
def rws (rs : List Rw) : List CT := (rs.map rwCs).flatten
theorem rws_len (rs : List Rw) : (rws rs).length = rs.length * 2 := by
  unfold rws
  rw [flatten_length (k := 2) (fun e he => by obtain ⟨m, _, rfl⟩ := List.mem_map.mp he; rfl)]; simp
theorem rws_snoc (rs : List Rw) (r : Rw) : rws (rs ++ [r]) = rws rs ++ rwCs r := by simp [rws]
theorem rws_frozen (e : Nat) (rs : List Rw) : (Ent.row e 2 (rws rs)).frozen (sliceT 2 (rs.map rwCs)) :=
  ⟨_, rfl, fun e he => by obtain ⟨m, _, rfl⟩ := List.mem_map.mp he; rfl, by decide, rfl⟩
structure RowIn (n : Int) (r : Rw) : Prop where
  len : (r.cs.length : Int) ≤ n
  lo : ∀ c ∈ r.cs, -3 ≤ c ∧ c ≤ 5
  b1 : -4503599627370496 ≤ r.b
  b2 : r.b ≤ 4503599627370496
structure Lp where
  n : Int
  rs : List Rw
  c : List Int
  p : Nat
structure LpIn (q : Lp) : Prop where
  n0 : 0 ≤ q.n
  n1 : q.n ≤ 4
  rl : q.rs.length ≤ 6
  rs : ∀ r ∈ q.rs, RowIn q.n r
  cl : (q.c.length : Int) ≤ q.n
  c : ∀ c ∈ q.c, -2 ≤ c ∧ c ≤ 4
theorem mem_snoc {α : Type} {P : α → Prop} {xs : List α} {x : α} (h : ∀ y ∈ xs, P y) (hx : P x) : ∀ y ∈ xs ++ [x], P y := fun y hy => by
  rcases List.mem_append.1 hy with h1 | h1
  · exact h y h1
  · rcases List.mem_singleton.1 h1 with rfl; exact hx
set_option maxHeartbeats 4000000 in
theorem Program_ok (bs : List Int) (p : Nat) (hb : Bytes bs) :
    OkB Tryz.prog 14 82 (codes bs p) [] LpIn (fun q => .fr (tupT [intC q.n, rowsC q.rs, intsC q.c])) (fun q => codes bs q.p) := by
  refine OkB.enter Tryz.func14 rfl _ Tryz.ntmps14 rfl ?_
  intro S w g
  (refine St.seq ?_; refine St.regionK (fun K hK => ?_); refine Ops.assign rfl rfl rfl ?_; refine Ops.assign rfl rfl rfl ?_; refine Ops.assign rfl rfl rfl ?_; refine Ops.nil (hK _ _ ?_); clear hK K; refine Fin.then ?_; refine St.seq ?_; refine St.regionK (fun K hK => ?_); refine Ops.move rfl rfl rfl ?_)
  refine Ops.callB goNext (Next_ok bs p 5 (by decide) (by decide) hb) rfl rfl rfl rfl rfl (fun q hq => ?_)
  obtain ⟨n, p1⟩ := q
  dsimp only at hq ⊢
  (refine Ops.assign rfl rfl rfl ?_; refine Ops.nil (hK _ _ ?_); clear hK K; refine Fin.then ?_; refine St.seq ?_; refine St.regionK (fun K hK => ?_); refine Ops.assign rfl rfl rfl ?_; refine Ops.nil (hK _ _ ?_); clear hK K; refine Fin.then ?_; refine St.seq ?_; refine St.seq ?_; refine St.regionK (fun K hK => ?_); refine Ops.move rfl rfl rfl ?_)
  refine Ops.callB goNext (Next_ok bs p1 7 (by decide) (by decide) hb) rfl rfl rfl rfl rfl (fun q hq1 => ?_)
  obtain ⟨k0, p2⟩ := q
  dsimp only at hq1 ⊢
  (refine Ops.assign rfl rfl rfl ?_; refine Ops.nil (hK _ _ ?_); clear hK K; refine Fin.then ?_; refine St.block ?_)
  refine St.nilRow 6 1 57 2 rfl rfl rfl ?_
  refine St.loop (α := Int × List Rw × Nat) (fun x => 0 ≤ x.1 ∧ x.2.1.length + x.1 ≤ 6 ∧ ∀ r ∈ x.2.1, RowIn n r)
    (fun x => [(0, .own 0), (5, .ct (intC n)), (6, .own 1), (7, .ct (intC x.1))]) (fun x => [(1, .row 57 2 (rws x.2.1)), (0, .box 82 (codes bs x.2.2))]) (fun x => x.1.toNat) (k0, [], p2) ⟨by omega, by simp; omega, by simp⟩ (by exact Entails.of rfl ⟨rfl, rfl, rfl, rfl, trivial⟩) ?_
  rintro ⟨k, rs, p3⟩ ⟨hk0, hkl, hrs⟩
  dsimp only at hk0 hkl hrs ⊢
  (refine St.seq ?_; refine St.seq ?_; refine St.regionK (fun K hK => ?_); refine Ops.move rfl rfl rfl ?_; refine Ops.ibin igtr rfl rfl rfl rfl ?_; refine Ops.nil (hK _ _ ?_); clear hK K; refine Fin.then ?_)
  refine St.condP rfl (fun hk => ?_) (fun hk => ?_)
  · (refine St.skip ?_; refine Fin.then ?_; refine St.seq ?_; refine St.block ?_; refine St.seq ?_; refine St.regionK (fun K hK => ?_); refine Ops.move rfl rfl rfl ?_)
    refine Ops.callB goNext (Next_ok bs p3 30 (by decide) (by decide) hb) rfl rfl rfl rfl rfl (fun q hq2 => ?_)
    obtain ⟨b0, p4⟩ := q
    dsimp only at hq2 ⊢
    (refine Ops.ibin (isub (by omega) (by omega)) rfl rfl rfl rfl ?_)
    refine Ops.build rfl (by with_reducible exact bRow) rfl (.one rfl rfl rfl rfl .nil) rfl ?_
    (refine Ops.alloc 2 rfl rfl (by with_reducible exact zvRow) rfl rfl rfl ?_; refine Ops.stWN 2 rfl rfl rfl rfl rfl (by with_reducible exact szRow) rfl rfl ?_; refine Ops.nil (hK _ _ ?_); clear hK K; refine Fin.then ?_; refine St.seq ?_; refine St.seq ?_; refine St.regionK (fun K hK => ?_); refine Ops.move rfl rfl rfl ?_; refine Ops.move rfl rfl rfl ?_; refine Ops.ibin (iadd (by omega) (by omega)) rfl rfl rfl rfl ?_)
    refine Ops.callB goNext (Next_ok bs p4 (n + 1) (by omega) (by omega) hb) rfl rfl rfl rfl rfl (fun q hq3 => ?_)
    obtain ⟨i0, p5⟩ := q
    dsimp only at hq3 ⊢
    (refine Ops.assign rfl rfl rfl ?_; refine Ops.nil (hK _ _ ?_); clear hK K; refine Fin.then ?_; refine St.block ?_)
    refine St.nilX 3 3 1 rfl rfl ?_
    refine St.loop (α := Int × List Int × Value × Nat) (fun x => 0 ≤ x.1 ∧ x.2.1.length + x.1 ≤ n ∧ (∀ c ∈ x.2.1, -3 ≤ c ∧ c ≤ 5) ∧ x.2.2.1.oneCell' = true)
      (fun x => [(0, .own 0), (5, .ct (intC n)), (6, .own 1), (7, .ct (intC k)), (8, .own 2), (9, .ct (intC x.1))])
      (fun x => [(3, .rowx x.2.2.1 3 1 (ints x.2.1)), (2, .box 57 [.ex x.2.2.1, intC (b0 - 8)]), (1, .row 57 2 (rws rs)), (0, .box 82 (codes bs x.2.2.2))]) (fun x => x.1.toNat) (i0, [], .slice none 0 0, p5) ⟨by omega, by simp; omega, by simp, rfl⟩ (by exact Entails.of rfl ⟨rfl, rfl, rfl, rfl, rfl, rfl, trivial⟩) ?_
    · rintro ⟨i, cs, v, p6⟩ ⟨hi0, hil, hcs, hv⟩
      dsimp only at hi0 hil hcs hv ⊢
      (refine St.seq ?_; refine St.seq ?_; refine St.regionK (fun K hK => ?_); refine Ops.move rfl rfl rfl ?_; refine Ops.ibin igtr rfl rfl rfl rfl ?_; refine Ops.nil (hK _ _ ?_); clear hK K; refine Fin.then ?_)
      refine St.condP rfl (fun hi => ?_) (fun hi => ?_)
      · (refine St.skip ?_; refine Fin.then ?_; refine St.seq ?_; refine St.block ?_)
        refine St.drawA (by with_reducible exact mixed) (.p 0 (.p 2 (.fk 1 (.lin (.a 3 (.p 4 (.a 5 (.a 6 (.p 7 (.a 8 .done))))))) 3 (.p 4 (.fk 1 (.lin (.a 5 (.a 6 (.p 7 (.a 8 .done))))) 5 (.lin (.a 1 (.a 6 (.p 7 (.a 8 .done)))))))))) (by kernel_rfl) (fun K hK => ?_)
        refine Fin.p ?_
        (refine Ops.fldO rfl rfl rfl (by with_reducible first | exact fC0 | exact fC1 | exact fR0 | exact fR1) rfl ?_)
        refine Ops.nil (Fin.p ?_)
        (refine Ops.move rfl rfl rfl ?_)
        refine Ops.nil (Fin.fk ?_ ?_)
        · (refine Ops.ld1A rfl rfl rfl rfl rfl (by with_reducible first | exact lBytes | exact lInt | exact lInts) rfl ?_)
          refine Ops.nil (Fin.lin ?_)
          refine Ops.callB goNext (Next_ok bs p6 9 (by decide) (by decide) hb) rfl rfl rfl rfl rfl (fun q hq4 => ?_)
          obtain ⟨c, p7⟩ := q
          dsimp only at hq4 ⊢
          (refine Ops.ibin (isub (by omega) (by omega)) rfl rfl rfl rfl ?_)
          refine Ops.lit1 rfl rfl (by with_reducible exact sInts) rfl rfl rfl ?_
          skip
          refine Ops.link 33 3 rfl rfl ?_
          refine Ops.append1 cs.length (ints (cs ++ [c - 3])) rfl rfl rfl rfl (by with_reducible exact sInts) (by simp [ints]) rfl (by omega) (by omega) (by simp [ints]) rfl ?_
          (refine Ops.fldO rfl rfl rfl (by with_reducible first | exact fC0 | exact fC1 | exact fR0 | exact fR1) rfl ?_)
          refine Ops.name 38 3 rfl rfl (fun v' hv' => ?_)
          refine Ops.st1A (c := .ex v') rfl rfl rfl rfl hv' (by with_reducible exact zIntsD) (by simp [Ent.cs]) ?_
          (refine Ops.nil (hK _ _ ?_); clear hK K; refine Fin.then ?_; refine St.regionK (fun K hK => ?_); refine Ops.move rfl rfl rfl ?_; refine Ops.ibin (isub (by omega) (by omega)) rfl rfl rfl rfl ?_; refine Ops.assign rfl rfl rfl ?_; refine Ops.nil (hK _ _ ?_); clear hK K; refine Fin.thenN ?_)
          refine Fin.next (i - 1, cs ++ [c - 3], v', p7) (by dsimp only; omega) ⟨by dsimp only; omega, by simp; omega, mem_snoc hcs (by omega), hv'⟩ (by exact Entails.of rfl ⟨rfl, rfl, rfl, rfl, rfl, rfl, trivial⟩)
        · refine Ops.callB goNext (Next_ok bs p6 9 (by decide) (by decide) hb) rfl rfl rfl rfl rfl (fun q hq4 => ?_)
          obtain ⟨c, p7⟩ := q
          dsimp only at hq4 ⊢
          skip
          refine Ops.nil (Fin.p ?_)
          (refine Ops.ibin (isub (by omega) (by omega)) rfl rfl rfl rfl ?_)
          refine Ops.nil (Fin.fk ?_ ?_)
          · (refine Ops.ld1A rfl rfl rfl rfl rfl (by with_reducible first | exact lBytes | exact lInt | exact lInts) rfl ?_)
            refine Ops.nil (Fin.lin ?_)
            refine Ops.lit1 rfl rfl (by with_reducible exact sInts) rfl rfl rfl ?_
            skip
            refine Ops.link 33 3 rfl rfl ?_
            refine Ops.append1 cs.length (ints (cs ++ [c - 3])) rfl rfl rfl rfl (by with_reducible exact sInts) (by simp [ints]) rfl (by omega) (by omega) (by simp [ints]) rfl ?_
            (refine Ops.fldO rfl rfl rfl (by with_reducible first | exact fC0 | exact fC1 | exact fR0 | exact fR1) rfl ?_)
            refine Ops.name 38 3 rfl rfl (fun v' hv' => ?_)
            refine Ops.st1A (c := .ex v') rfl rfl rfl rfl hv' (by with_reducible exact zIntsD) (by simp [Ent.cs]) ?_
            (refine Ops.nil (hK _ _ ?_); clear hK K; refine Fin.then ?_; refine St.regionK (fun K hK => ?_); refine Ops.move rfl rfl rfl ?_; refine Ops.ibin (isub (by omega) (by omega)) rfl rfl rfl rfl ?_; refine Ops.assign rfl rfl rfl ?_; refine Ops.nil (hK _ _ ?_); clear hK K; refine Fin.thenN ?_)
            refine Fin.next (i - 1, cs ++ [c - 3], v', p7) (by dsimp only; omega) ⟨by dsimp only; omega, by simp; omega, mem_snoc hcs (by omega), hv'⟩ (by exact Entails.of rfl ⟨rfl, rfl, rfl, rfl, rfl, rfl, trivial⟩)
          · refine Ops.lit1 rfl rfl (by with_reducible exact sInts) rfl rfl rfl ?_
            refine Ops.nil (Fin.lin ?_)
            (refine Ops.ld1A rfl rfl rfl rfl rfl (by with_reducible first | exact lBytes | exact lInt | exact lInts) rfl ?_)
            refine Ops.link 33 3 rfl rfl ?_
            refine Ops.append1 cs.length (ints (cs ++ [c - 3])) rfl rfl rfl rfl (by with_reducible exact sInts) (by simp [ints]) rfl (by omega) (by omega) (by simp [ints]) rfl ?_
            (refine Ops.fldO rfl rfl rfl (by with_reducible first | exact fC0 | exact fC1 | exact fR0 | exact fR1) rfl ?_)
            refine Ops.name 38 3 rfl rfl (fun v' hv' => ?_)
            refine Ops.st1A (c := .ex v') rfl rfl rfl rfl hv' (by with_reducible exact zIntsD) (by simp [Ent.cs]) ?_
            (refine Ops.nil (hK _ _ ?_); clear hK K; refine Fin.then ?_; refine St.regionK (fun K hK => ?_); refine Ops.move rfl rfl rfl ?_; refine Ops.ibin (isub (by omega) (by omega)) rfl rfl rfl rfl ?_; refine Ops.assign rfl rfl rfl ?_; refine Ops.nil (hK _ _ ?_); clear hK K; refine Fin.thenN ?_)
            refine Fin.next (i - 1, cs ++ [c - 3], v', p7) (by dsimp only; omega) ⟨by dsimp only; omega, by simp; omega, mem_snoc hcs (by omega), hv'⟩ (by exact Entails.of rfl ⟨rfl, rfl, rfl, rfl, rfl, rfl, trivial⟩)
      · refine St.frzX 3 2 0 _ rfl rfl rfl (ints_frozen _ _) (okFix_lent rfl) ?_
        (refine St.exit ?_; refine Fin.then ?_; refine St.seq ?_; refine St.seq ?_; refine St.regionK (fun K hK => ?_); refine Ops.move rfl rfl rfl ?_)
        refine Ops.callB goBool (Bool_ok bs p6 16 (by decide) (by decide) hb) rfl rfl rfl rfl rfl (fun q _ => ?_)
        obtain ⟨b, p7⟩ := q
        dsimp only
        (refine Ops.nil (hK _ _ ?_); clear hK K; refine Fin.then ?_)
        refine St.condB rfl (fun _ => ?_) (fun _ => ?_)
        · (refine St.regionK (fun K hK => ?_); refine Ops.move rfl rfl rfl ?_)
          refine Ops.lit (m := 2) (cs := [intC (-4503599627370496), intC 4503599627370496]) rfl rfl (by with_reducible exact sInts) (.one rfl rfl rfl rfl (.one rfl rfl rfl rfl .nil)) (by decide) rfl ?_
          refine Ops.callB goPick (Pick_ok bs p7 [-4503599627370496, 4503599627370496] (by decide) (by decide) hb) rfl rfl rfl rfl rfl (fun q hq5 => ?_)
          obtain ⟨b1, p8⟩ := q
          have hb1 : b1 = -4503599627370496 ∨ b1 = 4503599627370496 := by simpa using hq5
          dsimp only
          (refine Ops.fldO rfl rfl rfl (by with_reducible first | exact fC0 | exact fC1 | exact fR0 | exact fR1) rfl ?_; refine Ops.st1A rfl rfl rfl rfl rfl (by with_reducible exact zInt) (by simp [Ent.cs]) ?_; refine Ops.nil (hK _ _ ?_); clear hK K; refine Fin.then ?_; refine St.regionK (fun K hK => ?_); refine Ops.move rfl rfl rfl ?_; refine Ops.ldNO (n := 2) rfl rfl rfl rfl rfl (by with_reducible exact lRow) rfl ?_)
          refine Ops.litN (n := 2) rfl rfl (by with_reducible exact sRows) rfl rfl (by decide) rfl ?_
          refine Ops.append1 rs.length (rws (rs ++ [⟨cs, b1⟩])) rfl rfl rfl rfl (by with_reducible exact sRows) (rws_len rs) rfl (by omega) (by omega) (rws_snoc rs ⟨cs, b1⟩) rfl ?_
          (refine Ops.assign rfl rfl rfl ?_; refine Ops.nil (hK _ _ ?_); clear hK K; refine Fin.then ?_; refine St.regionK (fun K hK => ?_); refine Ops.move rfl rfl rfl ?_; refine Ops.ibin (isub (by omega) (by omega)) rfl rfl rfl rfl ?_; refine Ops.assign rfl rfl rfl ?_; refine Ops.nil (hK _ _ ?_); clear hK K; refine Fin.thenN ?_)
          refine Fin.dropB 2 ?_
          refine Fin.next (k - 1, rs ++ [⟨cs, b1⟩], p8) (by dsimp only; omega) ⟨by dsimp only; omega, by simp; omega, mem_snoc hrs ⟨by dsimp only; omega, hcs, by dsimp only; omega, by dsimp only; omega⟩⟩ (by exact Entails.of rfl ⟨rfl, rfl, rfl, rfl, trivial⟩)
        · (refine St.skip ?_; refine Fin.then ?_; refine St.regionK (fun K hK => ?_); refine Ops.move rfl rfl rfl ?_; refine Ops.ldNO (n := 2) rfl rfl rfl rfl rfl (by with_reducible exact lRow) rfl ?_)
          refine Ops.litN (n := 2) rfl rfl (by with_reducible exact sRows) rfl rfl (by decide) rfl ?_
          refine Ops.append1 rs.length (rws (rs ++ [⟨cs, b0 - 8⟩])) rfl rfl rfl rfl (by with_reducible exact sRows) (rws_len rs) rfl (by omega) (by omega) (rws_snoc rs ⟨cs, b0 - 8⟩) rfl ?_
          (refine Ops.assign rfl rfl rfl ?_; refine Ops.nil (hK _ _ ?_); clear hK K; refine Fin.then ?_; refine St.regionK (fun K hK => ?_); refine Ops.move rfl rfl rfl ?_; refine Ops.ibin (isub (by omega) (by omega)) rfl rfl rfl rfl ?_; refine Ops.assign rfl rfl rfl ?_; refine Ops.nil (hK _ _ ?_); clear hK K; refine Fin.thenN ?_)
          refine Fin.dropB 2 ?_
          refine Fin.next (k - 1, rs ++ [⟨cs, b0 - 8⟩], p7) (by dsimp only; omega) ⟨by dsimp only; omega, by simp; omega, mem_snoc hrs ⟨by dsimp only; omega, hcs, by dsimp only; omega, by dsimp only; omega⟩⟩ (by exact Entails.of rfl ⟨rfl, rfl, rfl, rfl, trivial⟩)
  · (refine St.exit ?_; refine Fin.then ?_; refine St.seq ?_; refine St.regionK (fun K hK => ?_); refine Ops.assign rfl rfl rfl ?_; refine Ops.nil (hK _ _ ?_); clear hK K; refine Fin.then ?_; refine St.seq ?_; refine St.seq ?_; refine St.regionK (fun K hK => ?_); refine Ops.move rfl rfl rfl ?_; refine Ops.move rfl rfl rfl ?_; refine Ops.ibin (iadd (by omega) (by omega)) rfl rfl rfl rfl ?_)
    refine Ops.callB goNext (Next_ok bs p3 (n + 1) (by omega) (by omega) hb) rfl rfl rfl rfl rfl (fun q hq3 => ?_)
    obtain ⟨i0, p5⟩ := q
    dsimp only at hq3 ⊢
    (refine Ops.assign rfl rfl rfl ?_; refine Ops.nil (hK _ _ ?_); clear hK K; refine Fin.then ?_; refine St.block ?_)
    refine St.nilRow 10 2 3 1 rfl rfl rfl ?_
    refine St.loop (α := Int × List Int × Nat) (fun x => 0 ≤ x.1 ∧ x.2.1.length + x.1 ≤ n ∧ (∀ c ∈ x.2.1, -2 ≤ c ∧ c ≤ 4))
      (fun x => [(0, .own 0), (5, .ct (intC n)), (6, .own 1), (10, .own 2), (11, .ct (intC x.1))])
      (fun x => [(2, .row 3 1 (ints x.2.1)), (1, .row 57 2 (rws rs)), (0, .box 82 (codes bs x.2.2))]) (fun x => x.1.toNat) (i0, [], p5) ⟨by omega, by simp; omega, by simp⟩ (by exact Entails.of rfl ⟨rfl, rfl, rfl, rfl, rfl, trivial⟩) ?_
    rintro ⟨i, cs, p6⟩ ⟨hi0, hil, hcs⟩
    dsimp only at hi0 hil hcs ⊢
    (refine St.seq ?_; refine St.seq ?_; refine St.regionK (fun K hK => ?_); refine Ops.move rfl rfl rfl ?_; refine Ops.ibin igtr rfl rfl rfl rfl ?_; refine Ops.nil (hK _ _ ?_); clear hK K; refine Fin.then ?_)
    refine St.condP rfl (fun hi => ?_) (fun hi => ?_)
    · (refine St.skip ?_; refine Fin.then ?_; refine St.seq ?_; refine St.block ?_; refine St.regionK (fun K hK => ?_); refine Ops.move rfl rfl rfl ?_; refine Ops.move rfl rfl rfl ?_)
      refine Ops.callB goNext (Next_ok bs p6 7 (by decide) (by decide) hb) rfl rfl rfl rfl rfl (fun q hq4 => ?_)
      obtain ⟨c, p7⟩ := q
      dsimp only at hq4 ⊢
      (refine Ops.ibin (isub (by omega) (by omega)) rfl rfl rfl rfl ?_)
      refine Ops.lit1 rfl rfl (by with_reducible exact sInts) rfl rfl rfl ?_
      refine Ops.append1 cs.length (ints (cs ++ [c - 2])) rfl rfl rfl rfl (by with_reducible exact sInts) (by simp [ints]) rfl (by omega) (by omega) (by simp [ints]) rfl ?_
      (refine Ops.assign rfl rfl rfl ?_; refine Ops.nil (hK _ _ ?_); clear hK K; refine Fin.then ?_; refine St.regionK (fun K hK => ?_); refine Ops.move rfl rfl rfl ?_; refine Ops.ibin (isub (by omega) (by omega)) rfl rfl rfl rfl ?_; refine Ops.assign rfl rfl rfl ?_; refine Ops.nil (hK _ _ ?_); clear hK K; refine Fin.thenN ?_)
      refine Fin.next (i - 1, cs ++ [c - 2], p7) (by dsimp only; omega) ⟨by dsimp only; omega, by simp; omega, mem_snoc hcs (by omega)⟩ (by exact Entails.of rfl ⟨rfl, rfl, rfl, rfl, rfl, trivial⟩)
    · refine St.frz 1 _ rfl (rws_frozen _ _) (okFix_lent rfl) ?_
      refine St.frz 2 _ rfl (ints_frozen _ _) (okFix_lent rfl) ?_
      (refine St.exit ?_; refine Fin.then ?_; refine St.seq ?_; refine St.regionK (fun K hK => ?_); refine Ops.move rfl rfl rfl ?_; refine Ops.move rfl rfl rfl ?_; refine Ops.move rfl rfl rfl ?_; refine Ops.assign rfl rfl rfl ?_; refine Ops.assign rfl rfl rfl ?_; refine Ops.assign rfl rfl rfl ?_; refine Ops.nil (hK _ _ ?_); clear hK K; refine Fin.then ?_; refine St.ret ?_)
      refine Fin.retB ⟨n, rs, cs, p6⟩ [_, _, _] rfl (AllRes.tmp rfl (AllRes.tmp rfl (AllRes.tmp rfl AllRes.nil))) rfl rfl ⟨hq.1, by show n ≤ 4; omega, by show rs.length ≤ 6; omega, hrs, by show (cs.length : Int) ≤ n; omega, hcs⟩
theorem goProgram : InGo Tryz.prog 14 := InGo.of Tryz.func14 rfl (by decide)
end Go.Proofs.YtdhmbgogmoaofaaGreat
namespace Go.Proofs.YtdhmbgogmoaofaaGreat
open Go.Own Go.Limbs
attribute [local irreducible] St Ops Go.Own.Fin Ok OkB OkN wpA tf
def e2r1 : List Rw := [⟨[1, 1], 4⟩, ⟨[1], 3⟩]
def e2r2 : List Rw := [⟨[1], 3⟩, ⟨[-1], -5⟩]
def e2y : List Int := [12, 12]
theorem e2y_in : ∀ y ∈ e2y, 0 ≤ y ∧ y ≤ 1000 := by decide
theorem goawake : InGo Tryz.prog 39 := InGo.of Tryz.func39 rfl (by decide)
set_option maxHeartbeats 4000000 in
theorem awake_ok : Ok Tryz.prog 39 [] (boolC true) := by
  have hC := Ceiling_tw 2 e2r1 [2, 1] e2y (by decide) rfl e2y_in (by decide) (by decide) (by decide)
  have hB7 := Bounds_tw 2 e2r1 [2, 1] e2y 84 (by decide) rfl e2y_in (by decide) (by decide) (by unfold Tb; decide)
  have hB6 := Bounds_tw 2 e2r1 [2, 1] e2y 72 (by decide) rfl e2y_in (by decide) (by decide) (by unfold Tb; decide)
  have hR := Refutes_tw 1 e2r2 e2y (by decide) rfl e2y_in
  have hP := Prune_tw 2 e2r1 e2y (by decide) rfl e2y_in
  rw [show covB (cols e2r1 e2y 2) [2, 1] = true by decide] at hC hB7 hB6
  rw [show (if true = true then bsum e2r1 e2y / 12 else 0) = 7 by decide] at hC
  rw [show (true && !decide ((84 : Int) < bsum e2r1 e2y)) = true by decide] at hB7
  rw [show (true && !decide ((72 : Int) < bsum e2r1 e2y)) = false by decide] at hB6
  rw [show (decide (bsum e2r2 e2y < 0) && covB (cols e2r2 e2y 1) []) = true by decide] at hR
  rw [show pruned e2y e2y.length = [0, 1] by decide] at hP
  have hE := Equal_refl (tf 24) (Nat.le_trans (Tb.sz (by unfold Tb; decide)) (by decide)) (tf_lend 24)
  have w1 : Ok Tryz.prog 46 [intC 1] (twC 12) := lwhole_ok 1 (by decide) (by decide)
  have w2 : Ok Tryz.prog 46 [intC 2] (twC 24) := lwhole_ok 2 (by decide) (by decide)
  have w6 : Ok Tryz.prog 46 [intC 6] (twC 72) := lwhole_ok 6 (by decide) (by decide)
  have w7 : Ok Tryz.prog 46 [intC 7] (twC 84) := lwhole_ok 7 (by decide) (by decide)
  refine Ok.enter Tryz.func39 rfl _ Tryz.ntmps39 rfl ?_
  intro S w
  (refine St.seq ?_; refine St.regionK (fun K hK => ?_); refine Ops.assign rfl rfl rfl ?_; refine Ops.nil (hK _ _ ?_); clear hK K; refine Fin.then ?_; refine St.seq ?_; refine St.regionK (fun K hK => ?_))
  refine Ops.lit (m := 2) (cs := [intC 1, intC 1]) rfl rfl (by with_reducible exact sInts) (.one rfl rfl rfl rfl (.one rfl rfl rfl rfl .nil)) (by decide) rfl ?_
  refine Ops.build rfl (by with_reducible exact bRow) rfl (.one rfl rfl rfl rfl (.one rfl rfl rfl rfl .nil)) rfl ?_
  refine Ops.lit1 rfl rfl (by with_reducible exact sInts) rfl rfl rfl ?_
  refine Ops.build rfl (by with_reducible exact bRow) rfl (.one rfl rfl rfl rfl (.one rfl rfl rfl rfl .nil)) rfl ?_
  refine Ops.lit (m := 2) (n := 2) (cs := rwCs ⟨[1, 1], 4⟩ ++ rwCs ⟨[1], 3⟩) rfl rfl (by with_reducible exact sRows) (.agg rfl rfl rfl rfl (.agg rfl rfl rfl rfl .nil)) (by decide) rfl ?_
  (refine Ops.assign rfl rfl rfl ?_; refine Ops.nil (hK _ _ ?_); clear hK K; refine Fin.then ?_; refine St.seq ?_; refine St.regionK (fun K hK => ?_))
  refine Ops.call gowhole w1 rfl rfl rfl rfl ?_
  refine Ops.call gowhole w1 rfl rfl rfl rfl ?_
  refine Ops.lit (m := 2) (n := 3) (cs := frCs (tf 12) ++ frCs (tf 12)) rfl rfl (by with_reducible exact sFracs) (.agg rfl rfl rfl rfl (.agg rfl rfl rfl rfl .nil)) (by decide) rfl ?_
  refine Ops.assign rfl rfl rfl ?_
  refine Ops.nil (hK _ _ ?_)
  clear hK K
  refine Fin.keep [(1, .ct (rowsC e2r1)), (2, .ct (twsC e2y))] ⟨rfl, rfl, trivial⟩ ?_
  (refine Fin.then ?_; refine St.seq ?_; refine St.regionK (fun K hK => ?_); refine Ops.move rfl rfl rfl ?_)
  refine Ops.lit (m := 2) (cs := [intC 2, intC 1]) rfl rfl (by with_reducible exact sInts) (.one rfl rfl rfl rfl (.one rfl rfl rfl rfl .nil)) (by decide) rfl ?_
  (refine Ops.move rfl rfl rfl ?_)
  refine Ops.call goCeiling hC rfl rfl rfl rfl ?_
  (refine Ops.move rfl rfl rfl ?_; refine Ops.extract rfl rfl rfl rfl ?_; refine Ops.extract rfl rfl rfl rfl ?_; refine Ops.assign rfl rfl rfl ?_; refine Ops.assign rfl rfl rfl ?_; refine Ops.nil (hK _ _ ?_); clear hK K; refine Fin.then ?_; refine St.seq ?_; refine St.regionK (fun K hK => ?_); refine Ops.move rfl rfl rfl ?_)
  refine Ops.lit (m := 2) (cs := [intC 2, intC 1]) rfl rfl (by with_reducible exact sInts) (.one rfl rfl rfl rfl (.one rfl rfl rfl rfl .nil)) (by decide) rfl ?_
  (refine Ops.move rfl rfl rfl ?_)
  refine Ops.call gowhole w7 rfl rfl rfl rfl ?_
  refine Ops.call goBounds hB7 rfl rfl rfl rfl ?_
  (refine Ops.move rfl rfl rfl ?_; refine Ops.move rfl rfl rfl ?_)
  refine Ops.lit (m := 2) (cs := [intC 2, intC 1]) rfl rfl (by with_reducible exact sInts) (.one rfl rfl rfl rfl (.one rfl rfl rfl rfl .nil)) (by decide) rfl ?_
  (refine Ops.move rfl rfl rfl ?_)
  refine Ops.call gowhole w6 rfl rfl rfl rfl ?_
  refine Ops.call goBounds hB6 rfl rfl rfl rfl ?_
  (refine Ops.inot rfl rfl rfl ?_; refine Ops.pickT rfl rfl rfl rfl ?_; refine Ops.move rfl rfl rfl ?_; refine Ops.move rfl rfl rfl ?_; refine Ops.pickT rfl rfl rfl rfl ?_; refine Ops.move rfl rfl rfl ?_; refine Ops.move rfl rfl rfl ?_; refine Ops.ibin ieql rfl rfl rfl rfl ?_; refine Ops.pickT rfl rfl rfl rfl ?_; refine Ops.move rfl rfl rfl ?_)
  refine Ops.lit1 rfl rfl (by with_reducible exact sInts) rfl rfl rfl ?_
  refine Ops.build rfl (by with_reducible exact bRow) rfl (.one rfl rfl rfl rfl (.one rfl rfl rfl rfl .nil)) rfl ?_
  refine Ops.lit1 rfl rfl (by with_reducible exact sInts) rfl rfl rfl ?_
  refine Ops.build rfl (by with_reducible exact bRow) rfl (.one rfl rfl rfl rfl (.one rfl rfl rfl rfl .nil)) rfl ?_
  refine Ops.lit (m := 2) (n := 2) (cs := rwCs ⟨[1], 3⟩ ++ rwCs ⟨[-1], -5⟩) rfl rfl (by with_reducible exact sRows) (.agg rfl rfl rfl rfl (.agg rfl rfl rfl rfl .nil)) (by decide) rfl ?_
  (refine Ops.move rfl rfl rfl ?_)
  refine Ops.call goRefutes hR rfl rfl rfl rfl ?_
  (refine Ops.pickT rfl rfl rfl rfl ?_; refine Ops.move rfl rfl rfl ?_)
  refine Ops.call gowhole w2 rfl rfl rfl rfl ?_
  refine Ops.call gowhole w2 rfl rfl rfl rfl ?_
  refine Ops.call goEqual hE rfl rfl rfl rfl ?_
  (refine Ops.pickT rfl rfl rfl rfl ?_; refine Ops.move rfl rfl rfl ?_; refine Ops.move rfl rfl rfl ?_; refine Ops.move rfl rfl rfl ?_)
  refine Ops.call goPrune hP rfl rfl rfl rfl ?_
  (refine Ops.lenF rfl rfl (by with_reducible first | exact sNat.und | exact sInts.und) (List.length_map ..) rfl ?_; refine Ops.ibin ieql rfl rfl rfl rfl ?_; refine Ops.pickT rfl rfl rfl rfl ?_; refine Ops.assign rfl rfl rfl ?_; refine Ops.nil (hK _ _ ?_); clear hK K; refine Fin.then ?_; refine St.ret ?_)
  refine Fin.ret [_] rfl (AllRes.tmp rfl AllRes.nil) rfl rfl
end Go.Proofs.YtdhmbgogmoaofaaGreat
namespace Go.Proofs.YtdhmbgogmoaofaaGreat
open Go.Own Go.Limbs
attribute [local irreducible] St Ops Go.Own.Fin Ok OkB OkN OkM wpA
def aw1 : List Rw := [⟨[1, 1], 4⟩, ⟨[1], 3⟩]
def aw2 : List Rw := [⟨[-1], -5⟩, ⟨[1], 3⟩]
def awX : List Fr := [ofQ (3 : Int), ofQ (1 : Int)]
end Go.Proofs.YtdhmbgogmoaofaaGreat
namespace Go.Proofs.YtdhmbgogmoaofaaGreat
open Go.Own Go.Limbs
attribute [local irreducible] St Ops Go.Own.Fin Ok OkB OkN OkM wpA
theorem okc_in {n : Int} {c : List Int} (cl : (c.length : Int) ≤ n) (h : ∀ y ∈ c, -1000 ≤ y ∧ y ≤ 1000) : okCoeffs n c = true := by
  have hc : c.any badC = false := by
    rw [List.any_eq_false]
    intro y hy
    have := h y hy
    unfold badC
    simp only [Bool.or_eq_true, decide_eq_true_eq]
    omega
  unfold okCoeffs
  rw [hc, decide_eq_true cl]
  decide
theorem valid_dice {n : Int} {rs : List Rw} (h0 : 0 ≤ n) (h1 : n ≤ 4) (hl : rs.length ≤ 64) (h : ∀ r ∈ rs, RowIn n r) : validR n rs = true := by
  unfold validR
  simp only [Bool.and_eq_true, decide_eq_true_eq, Bool.not_eq_true']
  refine ⟨⟨⟨h0, by omega⟩, by omega⟩, ?_⟩
  rw [List.any_eq_false]
  intro r hr
  obtain ⟨a1, a2, a3, a4⟩ := h r hr
  unfold badR
  rw [okc_in a1 (fun y hy => by have := a2 y hy; omega), decide_eq_false (show ¬ r.b < -4503599627370496 by omega), decide_eq_false (show ¬ 4503599627370496 < r.b by omega)]
  decide
theorem solve_ex {n : Int} {rs : List Rw} {c : List Int} (hv : validR n rs = true) (hc : okCoeffs n c = true) : ∃ O, Sol n.toNat rs c O ∧ Ok Tryz.prog 22 [intC n, rowsC rs, intsC c] (.fr (tupT [ocC O, intC 0])) := by
  obtain ⟨N, rfl, hL⟩ := lp_of hv hc
  obtain ⟨T, E, F, s, R, hs⟩ := lp_sol hL
  rw [Int.toNat_natCast]
  exact ⟨_, hs, Solve_ok N rs c hL hv hc R⟩
end Go.Proofs.YtdhmbgogmoaofaaGreat
namespace Go.Proofs.YtdhmbgogmoaofaaGreat
open Go.Own Go.Limbs
attribute [local irreducible] St Ops Go.Own.Fin Ok OkB OkN OkM wpA tf
set_option maxHeartbeats 8000000 in
theorem FarkasAccepts_ok (bs : List Int) (hb : ∀ b ∈ bs, 0 ≤ b ∧ b < 256) : Ok Tryz.prog 9 [bytesC bs] (boolC true) := by
  refine Ok.enter Tryz.func9 rfl _ Tryz.ntmps9 rfl ?_
  intro S w
  have hB : Bytes (bs.take 400) := ⟨fun b h => (hb b (List.mem_of_mem_take h)).1, fun b h => (hb b (List.mem_of_mem_take h)).2, by simp; omega⟩
  have hRoll := Roll_ok bs
  generalize bs.take 400 = B0 at hB hRoll
  (refine St.seq ?_; refine St.regionK (fun K hK => ?_); refine Ops.assign rfl rfl rfl ?_; refine Ops.nil (hK _ _ ?_); clear hK K; refine Fin.then ?_; refine St.seq ?_; refine St.seq ?_; refine St.regionK (fun K hK => ?_))
  refine Ops.call goawake awake_ok rfl rfl rfl rfl ?_
  (refine Ops.inot rfl rfl rfl ?_; refine Ops.nil (hK _ _ ?_); clear hK K; refine Fin.then ?_; refine St.condF rfl ?_; refine St.skip ?_; refine Fin.then ?_; refine St.seq ?_; refine St.regionK (fun K hK => ?_); refine Ops.move rfl rfl rfl ?_)
  refine Ops.callN 0 goRoll hRoll rfl rfl rfl rfl rfl rfl ?_
  (refine Ops.assign rfl rfl rfl ?_; refine Ops.nil (hK _ _ ?_); clear hK K; refine Fin.then ?_; refine St.seq ?_; refine St.regionK (fun K hK => ?_); refine Ops.move rfl rfl rfl ?_)
  refine Ops.callB goProgram (Program_ok B0 0 hB) rfl rfl rfl rfl rfl (fun q hq => ?_)
  obtain ⟨n, rs, c, p1⟩ := q
  obtain ⟨n0, n1, rl, hrs, cl, hc⟩ := hq
  dsimp only at n0 n1 rl hrs cl hc ⊢
  have hv := valid_dice n0 n1 (by omega) hrs
  have hk := okc_in cl (fun y hy => by have := hc y hy; omega)
  obtain ⟨O, s1, T1⟩ := solve_ex hv hk
  obtain ⟨N, rfl⟩ := Int.eq_ofNat_of_zero_le n0
  rw [Int.toNat_natCast] at s1
  have hF := FCheck_sol hv hk (by omega) rl s1
  clear hc hrs s1
  (refine Ops.move rfl rfl rfl ?_; refine Ops.extract rfl rfl rfl rfl ?_; refine Ops.extract rfl rfl rfl rfl ?_; refine Ops.extract rfl rfl rfl rfl ?_; refine Ops.assign rfl rfl rfl ?_; refine Ops.assign rfl rfl rfl ?_; refine Ops.assign rfl rfl rfl ?_; refine Ops.nil (hK _ _ ?_); clear hK K; refine Fin.then ?_; refine St.seq ?_; refine St.regionK (fun K hK => ?_); refine Ops.move rfl rfl rfl ?_; refine Ops.move rfl rfl rfl ?_; refine Ops.move rfl rfl rfl ?_)
  refine Ops.call goSolve T1 rfl rfl rfl rfl ?_
  (refine Ops.move rfl rfl rfl ?_; refine Ops.extract rfl rfl rfl rfl ?_; refine Ops.extract rfl rfl rfl rfl ?_; refine Ops.alloc 1 rfl rfl (by with_reducible exact zvOut) rfl rfl rfl ?_; refine Ops.stWN 7 rfl rfl rfl rfl rfl (by with_reducible exact szOut) rfl rfl ?_; refine Ops.assign rfl rfl rfl ?_; refine Ops.nil (hK _ _ ?_); clear hK K; refine Fin.then ?_; refine St.seq ?_; refine St.regionK (fun K hK => ?_); refine Ops.move rfl rfl rfl ?_; refine Ops.ibin ieql rfl rfl rfl rfl ?_; refine Ops.move rfl rfl rfl ?_; refine Ops.move rfl rfl rfl ?_; refine Ops.move rfl rfl rfl ?_; refine Ops.move rfl rfl rfl ?_; refine Ops.ldNO (n := 7) rfl rfl rfl rfl rfl (by with_reducible exact lOut) rfl ?_)
  refine Ops.call goFCheck hF rfl rfl rfl rfl ?_
  (refine Ops.pickT rfl rfl rfl rfl ?_; refine Ops.assign rfl rfl rfl ?_; refine Ops.nil (hK _ _ ?_); clear hK K; refine Fin.then ?_; refine St.ret ?_)
  refine Fin.ret [_] rfl (AllRes.tmp rfl AllRes.nil) rfl rfl
end Go.Proofs.YtdhmbgogmoaofaaGreat
namespace Go.Proofs.YtdhmbgogmoaofaaGreat
open Go.Own Go.Limbs
attribute [local irreducible] St Ops Go.Own.Fin Ok OkB OkN OkM wpA
structure Rf where
  neg : Bool
  xs : List Int
  ys : List Int
def rf0 : Rf := ⟨false, [], []⟩
abbrev rfCs (f : Rf) : List CT := [boolC f.neg, intsC f.xs, intsC f.ys]
abbrev rfsC (x : List Rf) : CT := .fr (sliceT 3 (x.map rfCs))
def okRf (f : Rf) : Bool := (decide (f.xs.length ≤ 6) && decide (f.ys.length ≤ 6)) && fvalidL f.neg f.xs f.ys
def smallB (rs : List Rw) (c : List Int) (x : List Rf) : Bool := (decide (rs.length ≤ 6) && decide (c.length ≤ 6) && decide (x.length ≤ 6)) && (rs.all (fun r => decide (r.cs.length ≤ 6)) && x.all okRf)
end Go.Proofs.YtdhmbgogmoaofaaGreat
namespace Go.Proofs.YtdhmbgogmoaofaaGreat
open Go.Own Go.Limbs
section
variable {H : Type} {enc : TypeId × Value → H} {P : Program} {w : World} {base : Nat} {spare : Nat → Bool} {held : Bool}
theorem slice_in {α : Type} {t e : TypeId} {n fuel : Nat} {cs0 : List Value} {x : DataW H × List MemPlace} (ht : P.underlying t = some (.slice e)) (hn : P.cellsOf e = n) (hn0 : 0 < n) (f : α → List CT) (hf : ∀ z, (f z).length = n) (good : α → Prop)
    (hE : ∀ m cs y, DataW.trod enc P w base spare held m e cs = some y → cs.length = n → ∃ z, cells (fun _ => True) w (f z) cs ∧ good z)
    (h : DataW.trod enc P w base spare held fuel t cs0 = some x) : ∃ (v : Value) (zs : List α), cs0 = [v] ∧ zs.length ≤ 9223372036854775807 ∧ (∀ z ∈ zs, good z) ∧ (CT.fr (sliceT n (zs.map f))).p (fun _ => True) w v := by
  rcases DataW.trod_slice ht h with ⟨h0, _⟩ | ⟨a, len, cap, elems, rest, m, _, rfl, rfl, _, hl, hm, hlen, hel, _⟩
  · exact ⟨_, [], h0, Nat.zero_le _, (fun z hz => nomatch hz), nil_is n _ w⟩
  rw [hn] at hel
  have key : ∀ k, k ≤ len → ∃ (zs : List α) (vs : List Value), zs.length = k ∧ (∀ z ∈ zs, good z) ∧ cells (fun _ => True) w (zs.map f).flatten vs ∧ vs.length = k * n ∧ ∀ i u, vs[i]? = some u → w.cell? (a.add i) = some u := by
    intro k
    induction k with
    | zero => intro _; exact ⟨[], [], rfl, (fun z hz => nomatch hz), trivial, (Nat.zero_mul n).symm, fun i u hu => by simp at hu⟩
    | succ k ih =>
      intro hk
      obtain ⟨zs, vs, e1, e2, e3, e4, e5⟩ := ih (by omega)
      have h1 := hel k (by omega)
      rw [List.getElem?_eq_getElem (show k < elems.length by omega), Option.bind_eq_some_iff] at h1
      obtain ⟨cs, h2, h3⟩ := h1
      obtain ⟨_, h4, h5⟩ := World.cells?_some h2
      obtain ⟨z, h6, h7⟩ := hE _ _ _ h3 h4
      refine ⟨zs ++ [z], vs ++ cs, by simp [e1], ?_, ?_, by rw [List.length_append, e4, h4, Nat.succ_mul], ?_⟩
      · intro y hy
        rcases List.mem_append.1 hy with hy | hy
        · exact e2 y hy
        · rw [List.mem_singleton.1 hy]; exact h7
      · rw [List.map_append, List.flatten_append]
        refine cells.append e3 ?_
        simpa using h6
      · intro i u hu
        rcases Nat.lt_or_ge i (k * n) with hi | hi
        · rw [List.getElem?_append_left (by omega)] at hu
          exact e5 i u hu
        · rw [List.getElem?_append_right (by omega), e4] at hu
          have hlt : i - k * n < n := by
            have := (List.getElem?_eq_some_iff.1 hu).1
            omega
          have := h5 (i - k * n) hlt
          rw [Addr.add_add, show k * n + (i - k * n) = i by omega] at this
          rw [this, hu]
  obtain ⟨zs, vs, e1, e2, e3, e4, e5⟩ := key len (Nat.le_refl _)
  have hmx : maxLen = 9223372036854775807 := by decide
  refine ⟨_, zs, rfl, by omega, e2, some a, cap, by rw [List.length_map, e1], by rw [List.length_map, e1]; exact hl, hm, fun y hy => by obtain ⟨z, _, rfl⟩ := List.mem_map.1 hy; exact hf z, fun hne => ?_⟩
  have hpos : 0 < len := by
    rcases Nat.eq_zero_or_pos len with h0 | h0
    · rw [h0] at e1; rw [List.length_eq_zero_iff.1 e1] at hne; exact absurd rfl hne
    · exact h0
  have hvl : 0 < vs.length := by rw [e4]; exact Nat.mul_pos hpos hn0
  have h0 := e5 0 _ (List.getElem?_eq_getElem hvl)
  obtain ⟨b, o, sp⟩ := a
  have hsp : sp = none ∧ b < w.heap.size := by
    simp only [Addr.add, if_true, World.cell?] at h0
    cases e : w.heap[b]? with
    | none => rw [e] at h0; cases h0
    | some ob =>
      rw [e] at h0
      cases ob with
      | cells c t r =>
        refine ⟨?_, heap_lt e⟩
        cases sp with
        | none => rfl
        | some q => simp at h0
      | _ => cases h0
  obtain ⟨rfl, hb⟩ := hsp
  refine ⟨b, o, rfl, trivial, hb, vs, e3, fun i u hu => ?_⟩
  have h1 := e5 i u hu
  have h3 : (⟨b, o, none⟩ : Addr).add i = ⟨b, o + i, none⟩ := by
    unfold Addr.add
    split
    · rename_i h; subst h; rfl
    · rfl
  rw [h3] at h1
  exact h1
theorem bytes_in {t e : TypeId} {fuel : Nat} {cs0 : List Value} {x : DataW H × List MemPlace} (ht : P.underlying t = some (.slice e)) (he : P.underlying e = some (.int .u8)) (hn : P.cellsOf e = 1)
    (h : DataW.trod enc P w base spare held fuel t cs0 = some x) : ∃ (v : Value) (zs : List Int), cs0 = [v] ∧ (∀ z ∈ zs, 0 ≤ z ∧ z < 256) ∧ (bytesC zs).p (fun _ => True) w v := by
  obtain ⟨v, zs, h1, _, h2, h3⟩ := slice_in ht hn (by decide) (fun z : Int => [CT.ex (Value.int .u8 z)]) (fun _ => rfl) (fun z => 0 ≤ z ∧ z < 256) (fun m cs y hy _ => by
    obtain ⟨z, rfl, _, hw⟩ := DataW.trod_int he hy
    exact ⟨z, ⟨rfl, trivial⟩, by have := bounds_u8 hw; omega⟩) h
  exact ⟨v, zs, h1, h2, h3⟩
end
end Go.Proofs.YtdhmbgogmoaofaaGreat
namespace Go.Proofs.YtdhmbgogmoaofaaGreat.farkasAccepts
open Go.ChangeShapes Go.WideShapes Go.ChangeAt Go.RowKit
open Go.ChangeMaps (open_string shut_string)
set_option linter.unusedVariables false
theorem own : ownKnob Tryz.prog.godebug = none := by kernel_rfl
theorem laidOut : laidOutB Tryz.prog = true := by kernel_rfl
set_option maxRecDepth 100000 in
theorem lifted (os : Os) (started : os.Started) (H : Type) (enc : TypeId × Value → H) :
    ReturnsInHanded {} Tryz.checked os 9 .any (Rows.farkasAcceptsSpec.pre6 enc Tryz.prog Tryz.f9 Rows.farkasAcceptsRow.domain false) (Rows.farkasAcceptsSpec.post enc Tryz.prog Tryz.f9 false true false false) := by
  refine returnsInHanded_of_change (C := Tryz.checked) own started (by kernel_rfl) Tryz.func9
    (ChangeSpec.witness6 (enc := enc) (C := Tryz.checked) false ⟨#[], #[.slice none 0 0], []⟩ 8 (by kernel_rfl) (by kernel_rfl) (by kernel_rfl) (by kernel_rfl)) ?_
  intro W base args ds gs before hval0 hW hcnd _
  have hval : ∀ (j : Nat) t v, Tryz.f9.params[j]? = some t → args[j]? = some v → Value.okWide Tryz.prog W .any base t v := hval0
  have hW' := hW
  obtain ⟨p, q, hA0, hV, rfl, hfz, hnd⟩ := hW
  have hA : DataW.TrodAll enc Tryz.prog W 0 (fun _ => true) true Tryz.f9.params.toList args.toList ds p := hA0
  rw [Tryz.params9] at hA hval
  obtain ⟨v0, vs0, d0, ds0, p0, q0, hargs0, rfl, rfl, h0, r0⟩ := trodAll_cons hA
  obtain ⟨rfl, rfl, rfl⟩ := trodAll_nil r0
  obtain rfl : args = #[v0] := by cases args; simp_all
  obtain ⟨rfl, rfl⟩ := trodVars_none hV
  obtain ⟨a0, len0, cap0, rfl⟩ := okWide_slice Tryz.underlying22 (hval 0 22 v0 rfl rfl)
  have k0 := h0
  have lt0 : ∀ x ∈ p0, x.block < W.heap.size := by obtain ⟨m, hm⟩ := k0; exact DataW.trod_lt m _ _ _ hm
  obtain ⟨f0, t0⟩ := h0
  obtain ⟨u0, z0, e0, c0, w0⟩ := bytes_in Tryz.underlying22 Tryz.underlying5 (by kernel_rfl) t0
  have e0 : Value.slice a0 len0 cap0 = u0 := by simpa [Value.cells] using e0
  subst e0
  clear hA0 hval0
  refine (((FarkasAccepts_ok z0 c0) (fun _ => True) W [.slice a0 len0 cap0] (fun _ _ => trivial) ⟨w0, trivial⟩)).mono fun e W' ⟨v, he, hv, bel⟩ => ?_
  have hv : v = .bool true := hv
  subst hv he
  exact ⟨_, rfl, _, _, _, [], _, [], hW', trodAll_mk1 (shut_bool Tryz.underlying4 _), (trodAll_cons_mk (Below.trod laidOut (by kernel_rfl) (of_decide_eq_true (by kernel_rfl)) k0 bel lt0) trodAll_mk0), rfl, bel.frame _, fun h => by cases h⟩
theorem over : Rows.farkasAcceptsRow.holds Tryz.pinned (OpenSpec.ofChange Rows.farkasAcceptsSpec) :=
  OpenClaim.holds_of_wide 9 Tryz.f9 rfl rfl rfl rfl rfl rfl rfl ⟨rfl, rfl, rfl, rfl, rfl⟩ rfl rfl rfl rfl rfl (by kernel_rfl) Tryz.func9 (by kernel_rfl)
    (of_decide_eq_true (by kernel_rfl)) (by unfold Func.isWrapper; first | (rw [if_pos (by decide +kernel)]; kernel_rfl) | (rw [if_neg (by decide +kernel)]; exact ⟨rfl, rfl⟩))
    (fun os started H enc _ => lifted os started H enc)
theorem proved : Rows.FarkasAcceptsSaid := over
#print axioms proved
end Go.Proofs.YtdhmbgogmoaofaaGreat.farkasAccepts
