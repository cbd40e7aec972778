/-
  Claims: facts of the program's tables; walks of cmp.Compare, cmp.Or, atlas.Compare.
-/
import Derived.Test.YtkeoejfbbmdloaaP0
import Derived.Test.YtkeoejfbbmdloaaK17
namespace Go.Proofs.Ytkeoejfbbmdloaa
open Go.Own
attribute [local irreducible] St Ops Go.Own.Fin Ok OkB OkN OkT OkL OkF

theorem uInt' : Try.prog.underlying 3 = some (.int .i64) := Try.underlying3
theorem uAddr : Try.prog.underlying 49 = some (.int .u32) := Try.underlying49
theorem lAddr : Ld1 Try.prog 49 := Ld1.of _ Try.underlying49 rfl
theorem lAssume : Ld1 Try.prog 50 := Ld1.of _ Try.underlying50 rfl
theorem lClaims : Ld1 Try.prog 26 := Ld1.of _ Try.underlying26 rfl
theorem zAddr : (Try.prog.info? 49).map (·.size) = some 1 := by kernel_rfl
theorem zClaims : (Try.prog.info? 26).map (·.size) = some 1 := by kernel_rfl
theorem szClaim : (Try.prog.info? 52).map (·.size) = some 7 := by kernel_rfl
theorem lClaim : LdN Try.prog 52 7 := LdN.of _ Try.underlying52 rfl (by kernel_rfl)
theorem zvClaim : (Try.prog.info? 52).map (·.zero) = some (some (.agg #[.int .i64 0, .int .u32 0, .int .u32 0, .int .i64 0, .int .i64 0, .int .i64 0, .int .i64 0])) := by kernel_rfl
theorem sClaims : SlcT Try.prog 26 52 7 48 (.agg #[.int .i64 0, .int .u32 0, .int .u32 0, .int .i64 0, .int .i64 0, .int .i64 0, .int .i64 0]) := SlcT.of Try.underlying26 (by kernel_rfl) rfl (by decide)
theorem bClaim : bInfo Try.prog 52 = some (.agg #[.int .i64 0, .int .u32 0, .int .u32 0, .int .i64 0, .int .i64 0, .int .i64 0, .int .i64 0], [(0, some 1), (1, some 1), (2, some 1), (3, some 1), (4, some 1), (5, some 1), (6, some 1)]) := by kernel_rfl
theorem fK0 : fldInfo Try.prog 52 0 = some (0, some 1) := by kernel_rfl
theorem fK1 : fldInfo Try.prog 52 1 = some (1, some 1) := by kernel_rfl
theorem fK2 : fldInfo Try.prog 52 2 = some (2, some 1) := by kernel_rfl
theorem fK3 : fldInfo Try.prog 52 3 = some (3, some 1) := by kernel_rfl
theorem fK4 : fldInfo Try.prog 52 4 = some (4, some 1) := by kernel_rfl
theorem fK5 : fldInfo Try.prog 52 5 = some (5, some 1) := by kernel_rfl
theorem fK6 : fldInfo Try.prog 52 6 = some (6, some 1) := by kernel_rfl

abbrev adrC (x : Int) : CT := .ex (.int .u32 x)
/-- A claim. -/
structure Cl where
  k : Int
  a : Int
  b : Int
  lo : Int
  hi : Int
  t : Int
  s : Int
deriving DecidableEq
def c0 : Cl := ⟨0, 0, 0, 0, 0, 0, 0⟩
abbrev clCs (c : Cl) : List CT := [intC c.k, adrC c.a, adrC c.b, intC c.lo, intC c.hi, intC c.t, intC c.s]
abbrev clC (c : Cl) : CT := .fr (aggT (clCs c))
abbrev clsC (l : List Cl) : CT := .fr (sliceT 7 (l.map clCs))
abbrev clK : List IntKind := [.i64, .u32, .u32, .i64, .i64, .i64, .i64]
abbrev clI (c : Cl) : List Int := [c.k, c.a, c.b, c.lo, c.hi, c.t, c.s]
theorem clI_inj {c d : Cl} : clI c = clI d ↔ c = d := by
  obtain ⟨a1, a2, a3, a4, a5, a6, a7⟩ := c
  obtain ⟨b1, b2, b3, b4, b5, b6, b7⟩ := d
  simp [clI]
theorem eClaim : EqS Try.prog 52 clK := ⟨by kernel_rfl, by kernel_rfl, by kernel_rfl, by kernel_rfl⟩

/-- The cells of a row of claims. -/
def cls (l : List Cl) : List CT := (l.map clCs).flatten
theorem cls_len (l : List Cl) : (cls l).length = l.length * 7 := by
  unfold cls
  rw [flatten_length (k := 7) (fun e he => by obtain ⟨m, _, rfl⟩ := List.mem_map.mp he; rfl)]; simp
theorem cls_snoc (l : List Cl) (c : Cl) : cls (l ++ [c]) = cls l ++ clCs c := by simp [cls]
theorem cls_app (l m : List Cl) : cls (l ++ m) = cls l ++ cls m := by simp [cls]
theorem cls_frozen (e : Nat) (l : List Cl) : (Ent.row e 7 (cls l)).frozen (sliceT 7 (l.map clCs)) :=
  ⟨_, rfl, fun e he => by obtain ⟨m, _, rfl⟩ := List.mem_map.mp he; rfl, by decide, rfl⟩
theorem cls_at {l : List Cl} {j : Int} (h0 : 0 ≤ j) (h : j < (l.length : Int)) : (l.map clCs)[j.toNat]? = some (clCs (l.getD j.toNat c0)) := by
  have : j.toNat < l.length := by omega
  simp [List.getElem?_map, List.getElem?_eq_getElem this, List.getD_eq_getElem?_getD]
theorem cls_take (l : List Cl) (i : Nat) : (cls l).take (i * 7) = cls (l.take i) := by
  induction l generalizing i with
  | nil => simp [cls]
  | cons c l ih =>
    cases i with
    | zero => simp [cls]
    | succ i =>
      have : cls (c :: l) = clCs c ++ cls l := by simp [cls]
      rw [this, List.take_succ_cons, show cls (c :: l.take i) = clCs c ++ cls (l.take i) by simp [cls], List.take_append, List.take_of_length_le (by simp; omega), ← ih]
      congr 2; simp; omega
theorem cls_drop (l : List Cl) (i : Nat) : (cls l).drop (i * 7) = cls (l.drop i) := by
  induction l generalizing i with
  | nil => simp [cls]
  | cons c l ih =>
    cases i with
    | zero => simp
    | succ i =>
      have : cls (c :: l) = clCs c ++ cls l := by simp [cls]
      rw [this, List.drop_succ_cons, List.drop_append, List.drop_of_length_le (by simp; omega), List.nil_append, ← ih]
      congr 1; simp; omega
theorem cls_get {l : List Cl} {i : Nat} (h : i < l.length) : ((cls l).drop (i * 7)).take 7 = clCs (l.getD i c0) := by
  rw [cls_drop, show (7 : Nat) = 1 * 7 by rfl, cls_take]
  have : (l.drop i).take 1 = [l.getD i c0] := by
    rw [List.getD_eq_getElem?_getD, List.getElem?_eq_getElem h, List.drop_eq_getElem_cons h]; rfl
  rw [this]; simp [cls]
theorem cls_put {l : List Cl} {i : Nat} (c : Cl) (h : i < l.length) : spl (cls l) (i * 7) (clCs c) = cls (l.set i c) := by
  unfold spl
  rw [cls_take, show i * 7 + (clCs c).length = (i + 1) * 7 by simp; omega, cls_drop, List.set_eq_take_append_cons_drop, if_pos h]
  simp [cls]

/-- Which of two integers is the greater one. -/
def cmp3 (a b : Int) : Int := if a < b then -1 else if b < a then 1 else 0
theorem cmp3_eq (a b : Int) : cmp3 a b = if a < b then -1 else if b < a then 1 else 0 := rfl
/-- The first difference of two lists. -/
def cmpL : List Int → List Int → Int
  | x :: xs, y :: ys => if cmp3 x y ≠ 0 then cmp3 x y else cmpL xs ys
  | _, _ => 0
/-- The order of claims. -/
def cmpC (c d : Cl) : Int := cmpL (clI c) (clI d)

theorem gonan : InGo Try.prog 44 := InGo.of Try.func44 rfl (by decide)
theorem gonanA : InGo Try.prog 45 := InGo.of Try.func45 rfl (by decide)
theorem gonanS : InGo Try.prog 46 := InGo.of Try.func46 rfl (by decide)
theorem gocm : InGo Try.prog 35 := InGo.of Try.func35 rfl (by decide)
theorem gocmA : InGo Try.prog 36 := InGo.of Try.func36 rfl (by decide)
theorem gocmS : InGo Try.prog 37 := InGo.of Try.func37 rfl (by decide)
theorem nan_ok (x : Int) : Ok Try.prog 44 [intC x] (boolC false) := by
  refine Ok.enter Try.func44 rfl _ Try.ntmps44 rfl ?_
  intro S w
  (refine St.seq ?_; refine St.regionK (fun K hK => ?_); refine Ops.assign rfl rfl rfl ?_; refine Ops.nil (hK _ _ ?_); clear hK K; refine Fin.then ?_; refine St.seq ?_; refine St.regionK (fun K hK => ?_); refine Ops.move rfl rfl rfl ?_; refine Ops.move rfl rfl rfl ?_; refine Ops.ibin ineq rfl rfl rfl rfl ?_; refine Ops.assign rfl rfl rfl ?_; refine Ops.nil (hK _ _ ?_); clear hK K; refine Fin.then ?_; refine St.ret ?_)
  refine Fin.ret [_] rfl (AllRes.tmp rfl AllRes.nil) (by rw [← decide_eq_false (show ¬ (x ≠ x) by simp)]; rfl) rfl
theorem nanA_ok (x : Int) : Ok Try.prog 45 [adrC x] (boolC false) := by
  refine Ok.enter Try.func45 rfl _ Try.ntmps45 rfl ?_
  intro S w
  (refine St.seq ?_; refine St.regionK (fun K hK => ?_); refine Ops.assign rfl rfl rfl ?_; refine Ops.nil (hK _ _ ?_); clear hK K; refine Fin.then ?_; refine St.seq ?_; refine St.regionK (fun K hK => ?_); refine Ops.move rfl rfl rfl ?_; refine Ops.move rfl rfl rfl ?_; refine Ops.ibin ineq rfl rfl rfl rfl ?_; refine Ops.assign rfl rfl rfl ?_; refine Ops.nil (hK _ _ ?_); clear hK K; refine Fin.then ?_; refine St.ret ?_)
  refine Fin.ret [_] rfl (AllRes.tmp rfl AllRes.nil) (by rw [← decide_eq_false (show ¬ (x ≠ x) by simp)]; rfl) rfl
theorem nanS_ok (x : Int) : Ok Try.prog 46 [intC x] (boolC false) := by
  refine Ok.enter Try.func46 rfl _ Try.ntmps46 rfl ?_
  intro S w
  (refine St.seq ?_; refine St.regionK (fun K hK => ?_); refine Ops.assign rfl rfl rfl ?_; refine Ops.nil (hK _ _ ?_); clear hK K; refine Fin.then ?_; refine St.seq ?_; refine St.regionK (fun K hK => ?_); refine Ops.move rfl rfl rfl ?_; refine Ops.move rfl rfl rfl ?_; refine Ops.ibin ineq rfl rfl rfl rfl ?_; refine Ops.assign rfl rfl rfl ?_; refine Ops.nil (hK _ _ ?_); clear hK K; refine Fin.then ?_; refine St.ret ?_)
  refine Fin.ret [_] rfl (AllRes.tmp rfl AllRes.nil) (by rw [← decide_eq_false (show ¬ (x ≠ x) by simp)]; rfl) rfl
theorem cm_ok (x y : Int) : Ok Try.prog 35 [intC x, intC y] (intC (cmp3 x y)) := by
  refine Ok.enter Try.func35 rfl _ Try.ntmps35 rfl ?_
  intro S w
  (refine St.seq ?_; refine St.regionK (fun K hK => ?_); refine Ops.assign rfl rfl rfl ?_; refine Ops.nil (hK _ _ ?_); clear hK K; refine Fin.then ?_; refine St.seq ?_; refine St.regionK (fun K hK => ?_); refine Ops.move rfl rfl rfl ?_)
  refine Ops.call gonan (nan_ok x) rfl rfl rfl rfl ?_
  (refine Ops.assign rfl rfl rfl ?_; refine Ops.nil (hK _ _ ?_); clear hK K; refine Fin.then ?_; refine St.seq ?_; refine St.regionK (fun K hK => ?_); refine Ops.move rfl rfl rfl ?_)
  refine Ops.call gonan (nan_ok y) rfl rfl rfl rfl ?_
  (refine Ops.assign rfl rfl rfl ?_; refine Ops.nil (hK _ _ ?_); clear hK K; refine Fin.then ?_; refine St.seq ?_; refine St.seq ?_; refine St.regionK (fun K hK => ?_); refine Ops.move rfl rfl rfl ?_; refine Ops.nil (hK _ _ ?_); clear hK K; refine Fin.then ?_; refine St.condF rfl ?_; refine St.skip ?_; refine Fin.then ?_; refine St.seq ?_; refine St.seq ?_; refine St.regionK (fun K hK => ?_); refine Ops.move rfl rfl rfl ?_; refine Ops.nil (hK _ _ ?_); clear hK K; refine Fin.then ?_; refine St.condF rfl ?_; refine St.skip ?_; refine Fin.then ?_; refine St.seq ?_; refine St.seq ?_; refine St.regionK (fun K hK => ?_); refine Ops.move rfl rfl rfl ?_; refine Ops.move rfl rfl rfl ?_; refine Ops.ibin ilss rfl rfl rfl rfl ?_; refine Ops.nil (hK _ _ ?_); clear hK K; refine Fin.then ?_)
  refine St.condP rfl (fun h => ?_) (fun h => ?_)
  · (refine St.seq ?_; refine St.regionK (fun K hK => ?_); refine Ops.assign rfl rfl rfl ?_; refine Ops.nil (hK _ _ ?_); clear hK K; refine Fin.then ?_; refine St.ret ?_; refine Fin.thenRet ?_)
    refine Fin.ret [_] rfl (AllRes.tmp rfl AllRes.nil) (by rw [cmp3_eq, if_pos h]; rfl) rfl
  · (refine St.skip ?_; refine Fin.then ?_; refine St.seq ?_; refine St.seq ?_; refine St.regionK (fun K hK => ?_); refine Ops.move rfl rfl rfl ?_; refine Ops.move rfl rfl rfl ?_; refine Ops.ibin igtr rfl rfl rfl rfl ?_; refine Ops.nil (hK _ _ ?_); clear hK K; refine Fin.then ?_)
    refine St.condP rfl (fun h2 => ?_) (fun h2 => ?_)
    · (refine St.seq ?_; refine St.regionK (fun K hK => ?_); refine Ops.assign rfl rfl rfl ?_; refine Ops.nil (hK _ _ ?_); clear hK K; refine Fin.then ?_; refine St.ret ?_; refine Fin.thenRet ?_)
      refine Fin.ret [_] rfl (AllRes.tmp rfl AllRes.nil) (by rw [cmp3_eq, if_neg h, if_pos h2]; rfl) rfl
    · (refine St.skip ?_; refine Fin.then ?_; refine St.seq ?_; refine St.regionK (fun K hK => ?_); refine Ops.assign rfl rfl rfl ?_; refine Ops.nil (hK _ _ ?_); clear hK K; refine Fin.then ?_; refine St.ret ?_)
      refine Fin.ret [_] rfl (AllRes.tmp rfl AllRes.nil) (by rw [cmp3_eq, if_neg h, if_neg h2]; rfl) rfl
theorem cmA_ok (x y : Int) : Ok Try.prog 36 [adrC x, adrC y] (intC (cmp3 x y)) := by
  refine Ok.enter Try.func36 rfl _ Try.ntmps36 rfl ?_
  intro S w
  (refine St.seq ?_; refine St.regionK (fun K hK => ?_); refine Ops.assign rfl rfl rfl ?_; refine Ops.nil (hK _ _ ?_); clear hK K; refine Fin.then ?_; refine St.seq ?_; refine St.regionK (fun K hK => ?_); refine Ops.move rfl rfl rfl ?_)
  refine Ops.call gonanA (nanA_ok x) rfl rfl rfl rfl ?_
  (refine Ops.assign rfl rfl rfl ?_; refine Ops.nil (hK _ _ ?_); clear hK K; refine Fin.then ?_; refine St.seq ?_; refine St.regionK (fun K hK => ?_); refine Ops.move rfl rfl rfl ?_)
  refine Ops.call gonanA (nanA_ok y) rfl rfl rfl rfl ?_
  (refine Ops.assign rfl rfl rfl ?_; refine Ops.nil (hK _ _ ?_); clear hK K; refine Fin.then ?_; refine St.seq ?_; refine St.seq ?_; refine St.regionK (fun K hK => ?_); refine Ops.move rfl rfl rfl ?_; refine Ops.nil (hK _ _ ?_); clear hK K; refine Fin.then ?_; refine St.condF rfl ?_; refine St.skip ?_; refine Fin.then ?_; refine St.seq ?_; refine St.seq ?_; refine St.regionK (fun K hK => ?_); refine Ops.move rfl rfl rfl ?_; refine Ops.nil (hK _ _ ?_); clear hK K; refine Fin.then ?_; refine St.condF rfl ?_; refine St.skip ?_; refine Fin.then ?_; refine St.seq ?_; refine St.seq ?_; refine St.regionK (fun K hK => ?_); refine Ops.move rfl rfl rfl ?_; refine Ops.move rfl rfl rfl ?_; refine Ops.ibin ilss rfl rfl rfl rfl ?_; refine Ops.nil (hK _ _ ?_); clear hK K; refine Fin.then ?_)
  refine St.condP rfl (fun h => ?_) (fun h => ?_)
  · (refine St.seq ?_; refine St.regionK (fun K hK => ?_); refine Ops.assign rfl rfl rfl ?_; refine Ops.nil (hK _ _ ?_); clear hK K; refine Fin.then ?_; refine St.ret ?_; refine Fin.thenRet ?_)
    refine Fin.ret [_] rfl (AllRes.tmp rfl AllRes.nil) (by rw [cmp3_eq, if_pos h]; rfl) rfl
  · (refine St.skip ?_; refine Fin.then ?_; refine St.seq ?_; refine St.seq ?_; refine St.regionK (fun K hK => ?_); refine Ops.move rfl rfl rfl ?_; refine Ops.move rfl rfl rfl ?_; refine Ops.ibin igtr rfl rfl rfl rfl ?_; refine Ops.nil (hK _ _ ?_); clear hK K; refine Fin.then ?_)
    refine St.condP rfl (fun h2 => ?_) (fun h2 => ?_)
    · (refine St.seq ?_; refine St.regionK (fun K hK => ?_); refine Ops.assign rfl rfl rfl ?_; refine Ops.nil (hK _ _ ?_); clear hK K; refine Fin.then ?_; refine St.ret ?_; refine Fin.thenRet ?_)
      refine Fin.ret [_] rfl (AllRes.tmp rfl AllRes.nil) (by rw [cmp3_eq, if_neg h, if_pos h2]; rfl) rfl
    · (refine St.skip ?_; refine Fin.then ?_; refine St.seq ?_; refine St.regionK (fun K hK => ?_); refine Ops.assign rfl rfl rfl ?_; refine Ops.nil (hK _ _ ?_); clear hK K; refine Fin.then ?_; refine St.ret ?_)
      refine Fin.ret [_] rfl (AllRes.tmp rfl AllRes.nil) (by rw [cmp3_eq, if_neg h, if_neg h2]; rfl) rfl
theorem cmS_ok (x y : Int) : Ok Try.prog 37 [intC x, intC y] (intC (cmp3 x y)) := by
  refine Ok.enter Try.func37 rfl _ Try.ntmps37 rfl ?_
  intro S w
  (refine St.seq ?_; refine St.regionK (fun K hK => ?_); refine Ops.assign rfl rfl rfl ?_; refine Ops.nil (hK _ _ ?_); clear hK K; refine Fin.then ?_; refine St.seq ?_; refine St.regionK (fun K hK => ?_); refine Ops.move rfl rfl rfl ?_)
  refine Ops.call gonanS (nanS_ok x) rfl rfl rfl rfl ?_
  (refine Ops.assign rfl rfl rfl ?_; refine Ops.nil (hK _ _ ?_); clear hK K; refine Fin.then ?_; refine St.seq ?_; refine St.regionK (fun K hK => ?_); refine Ops.move rfl rfl rfl ?_)
  refine Ops.call gonanS (nanS_ok y) rfl rfl rfl rfl ?_
  (refine Ops.assign rfl rfl rfl ?_; refine Ops.nil (hK _ _ ?_); clear hK K; refine Fin.then ?_; refine St.seq ?_; refine St.seq ?_; refine St.regionK (fun K hK => ?_); refine Ops.move rfl rfl rfl ?_; refine Ops.nil (hK _ _ ?_); clear hK K; refine Fin.then ?_; refine St.condF rfl ?_; refine St.skip ?_; refine Fin.then ?_; refine St.seq ?_; refine St.seq ?_; refine St.regionK (fun K hK => ?_); refine Ops.move rfl rfl rfl ?_; refine Ops.nil (hK _ _ ?_); clear hK K; refine Fin.then ?_; refine St.condF rfl ?_; refine St.skip ?_; refine Fin.then ?_; refine St.seq ?_; refine St.seq ?_; refine St.regionK (fun K hK => ?_); refine Ops.move rfl rfl rfl ?_; refine Ops.move rfl rfl rfl ?_; refine Ops.ibin ilss rfl rfl rfl rfl ?_; refine Ops.nil (hK _ _ ?_); clear hK K; refine Fin.then ?_)
  refine St.condP rfl (fun h => ?_) (fun h => ?_)
  · (refine St.seq ?_; refine St.regionK (fun K hK => ?_); refine Ops.assign rfl rfl rfl ?_; refine Ops.nil (hK _ _ ?_); clear hK K; refine Fin.then ?_; refine St.ret ?_; refine Fin.thenRet ?_)
    refine Fin.ret [_] rfl (AllRes.tmp rfl AllRes.nil) (by rw [cmp3_eq, if_pos h]; rfl) rfl
  · (refine St.skip ?_; refine Fin.then ?_; refine St.seq ?_; refine St.seq ?_; refine St.regionK (fun K hK => ?_); refine Ops.move rfl rfl rfl ?_; refine Ops.move rfl rfl rfl ?_; refine Ops.ibin igtr rfl rfl rfl rfl ?_; refine Ops.nil (hK _ _ ?_); clear hK K; refine Fin.then ?_)
    refine St.condP rfl (fun h2 => ?_) (fun h2 => ?_)
    · (refine St.seq ?_; refine St.regionK (fun K hK => ?_); refine Ops.assign rfl rfl rfl ?_; refine Ops.nil (hK _ _ ?_); clear hK K; refine Fin.then ?_; refine St.ret ?_; refine Fin.thenRet ?_)
      refine Fin.ret [_] rfl (AllRes.tmp rfl AllRes.nil) (by rw [cmp3_eq, if_neg h, if_pos h2]; rfl) rfl
    · (refine St.skip ?_; refine Fin.then ?_; refine St.seq ?_; refine St.regionK (fun K hK => ?_); refine Ops.assign rfl rfl rfl ?_; refine Ops.nil (hK _ _ ?_); clear hK K; refine Fin.then ?_; refine St.ret ?_)
      refine Fin.ret [_] rfl (AllRes.tmp rfl AllRes.nil) (by rw [cmp3_eq, if_neg h, if_neg h2]; rfl) rfl

/-- The first number that is not 0. -/
def firstN : List Int → Int
  | [] => 0
  | x :: xs => if x ≠ 0 then x else firstN xs
theorem goOr : InGo Try.prog 34 := InGo.of Try.func34 rfl (by decide)
theorem firstN_drop {xs : List Int} {i : Nat} (h : i < xs.length) : firstN (xs.drop i) = if xs.getD i 0 ≠ 0 then xs.getD i 0 else firstN (xs.drop (i + 1)) := by
  rw [List.drop_eq_getElem_cons h, List.getD_eq_getElem?_getD, List.getElem?_eq_getElem h]; rfl
theorem Or_ok (xs : List Int) (hl : xs.length ≤ 100) : Ok Try.prog 34 [intsC xs] (intC (firstN xs)) := by
  refine Ok.enter Try.func34 rfl _ Try.ntmps34 rfl ?_
  intro S w
  (refine St.seq ?_; refine St.regionK (fun K hK => ?_); refine Ops.assign rfl rfl rfl ?_; refine Ops.nil (hK _ _ ?_); clear hK K; refine Fin.then ?_; refine St.seq ?_; refine St.regionK (fun K hK => ?_); refine Ops.assign rfl rfl rfl ?_; refine Ops.nil (hK _ _ ?_); clear hK K; refine Fin.then ?_; refine St.seq ?_; refine St.seq ?_; refine St.regionK (fun K hK => ?_); refine Ops.move rfl rfl rfl ?_; refine Ops.lenF rfl rfl (by with_reducible first | exact sClaims.und | exact sInts.und | exact sLists.und) (List.length_map ..) rfl ?_; refine Ops.move rfl rfl rfl ?_; refine Ops.nil (hK _ _ ?_); clear hK K; refine Fin.then ?_; refine St.block ?_)
  refine St.loop (α := Nat) (fun i => i ≤ xs.length ∧ firstN (xs.drop i) = firstN xs)
    (fun i => [(3, .ct (intC 0)), (6, .ct (intsC xs)), (7, .ct (intC xs.length)), (8, .ct (intC i))]) (fun _ => []) (fun i => xs.length - i) 0 ⟨Nat.zero_le _, rfl⟩ (by exact Entails.of rfl ⟨rfl, rfl, rfl, rfl, trivial⟩) ?_
  rintro i ⟨hi, hf⟩
  dsimp only at hi hf ⊢
  (refine St.seq ?_; refine St.regionK (fun K hK => ?_); refine Ops.ibin ilss rfl rfl rfl rfl ?_; refine Ops.nil (hK _ _ ?_); clear hK K; refine Fin.then ?_; refine St.seq ?_)
  refine St.condP rfl (fun h => ?_) (fun h => ?_)
  · have e2 : (i : Int).toNat = i := Int.toNat_natCast i
    have h3 := firstN_drop (xs := xs) (i := i) (by omega)
    (refine St.skip ?_; refine Fin.then ?_; refine St.seq ?_; refine St.block ?_; refine St.seq ?_; refine St.regionK (fun K hK => ?_); refine Ops.idxF rfl rfl rfl (by with_reducible exact sInts) (by omega) (ints_at (by omega) (by omega)) rfl ?_; refine Ops.ld1F rfl rfl rfl (by with_reducible first | exact lInt | exact lClaims) rfl ?_; refine Ops.assign rfl rfl rfl ?_; refine Ops.nil (hK _ _ ?_); clear hK K; refine Fin.then ?_; refine St.seq ?_; refine St.regionK (fun K hK => ?_); refine Ops.move rfl rfl rfl ?_; refine Ops.move rfl rfl rfl ?_; refine Ops.ibin ineq rfl rfl rfl rfl ?_; refine Ops.nil (hK _ _ ?_); clear hK K; refine Fin.then ?_)
    rw [e2]
    generalize xs.getD i 0 = x at h3
    skip
    refine St.condP rfl (fun h2 => ?_) (fun h2 => ?_)
    · (refine St.seq ?_; refine St.regionK (fun K hK => ?_); refine Ops.move rfl rfl rfl ?_; refine Ops.assign rfl rfl rfl ?_; refine Ops.nil (hK _ _ ?_); clear hK K; refine Fin.then ?_; refine St.ret ?_; refine Fin.blockRet ?_; refine Fin.thenRet ?_; refine Fin.thenRet ?_; refine Fin.blockRet ?_; refine Fin.thenRet ?_)
      refine Fin.ret [_] rfl (AllRes.tmp rfl AllRes.nil) (by rw [← hf, h3, if_pos h2]; rfl) rfl
    · (refine St.skip ?_; refine Fin.then ?_; refine St.regionK (fun K hK => ?_); refine Ops.ibin (iadd (by omega) (by omega)) rfl rfl rfl rfl ?_; refine Ops.move rfl rfl rfl ?_; refine Ops.nil (hK _ _ ?_); clear hK K; refine Fin.thenN ?_)
      refine Fin.next (i + 1) (by omega) ⟨by omega, by rw [← hf, h3, if_neg h2]⟩ (by exact Entails.of rfl ⟨rfl, rfl, rfl, by simp only [Int.natCast_add]; rfl, trivial⟩)
  · (refine St.exit ?_; refine Fin.then ?_; refine St.seq ?_; refine St.regionK (fun K hK => ?_); refine Ops.move rfl rfl rfl ?_; refine Ops.assign rfl rfl rfl ?_; refine Ops.nil (hK _ _ ?_); clear hK K; refine Fin.then ?_; refine St.ret ?_)
    have hi' : i = xs.length := by omega
    refine Fin.ret [_] rfl (AllRes.tmp rfl AllRes.nil) (by rw [← hf, hi', List.drop_length]; rfl) rfl

theorem goACmp : InGo Try.prog 24 := InGo.of Try.func24 rfl (by decide)
set_option maxHeartbeats 4000000 in
theorem ACmp_ok (c d : Cl) : Ok Try.prog 24 [clC c, clC d] (intC (cmpC c d)) := by
  refine Ok.enter Try.func24 rfl _ Try.ntmps24 rfl ?_
  intro S w
  (refine St.seq ?_; refine St.regionK (fun K hK => ?_); refine Ops.boxN 0 rfl rfl rfl rfl rfl rfl rfl ?_; refine Ops.boxN 1 rfl rfl rfl rfl rfl rfl rfl ?_; refine Ops.assign rfl rfl rfl ?_; refine Ops.nil (hK _ _ ?_); clear hK K; refine Fin.then ?_; refine St.seq ?_)
  refine St.drawK (by with_reducible exact mixed) 38 (.p 0 (.p 2 (.p 5 (.p 7 (.p 10 (.p 12 (.p 15 (.p 17 (.p 20 (.p 22 (.p 25 (.p 27 (.p 30 (.p 32 (.f 1 (.f 3 (.f 6 (.f 8 (.f 11 (.f 13 (.f 16 (.f 18 (.f 21 (.f 23 (.f 26 (.f 28 (.f 31 (.f 33 (.m 4 (.m 9 (.m 14 (.m 19 (.m 24 (.m 29 (.m 34 (.m 35 (.m 36 (.p 37 .done)))))))))))))))))))))))))))))))))))))) (by kernel_rfl) (fun K hK => ?_)
  (refine Ops.fldO rfl rfl rfl (by with_reducible first | exact fK0 | exact fK1 | exact fK2 | exact fK3 | exact fK4 | exact fK5 | exact fK6 | exact fE0 | exact fE1 | exact fE2 | exact fE3 | exact fA0 | exact fD0 | exact fD1) rfl ?_; refine Ops.fldO rfl rfl rfl (by with_reducible first | exact fK0 | exact fK1 | exact fK2 | exact fK3 | exact fK4 | exact fK5 | exact fK6 | exact fE0 | exact fE1 | exact fE2 | exact fE3 | exact fA0 | exact fD0 | exact fD1) rfl ?_; refine Ops.fldO rfl rfl rfl (by with_reducible first | exact fK0 | exact fK1 | exact fK2 | exact fK3 | exact fK4 | exact fK5 | exact fK6 | exact fE0 | exact fE1 | exact fE2 | exact fE3 | exact fA0 | exact fD0 | exact fD1) rfl ?_; refine Ops.fldO rfl rfl rfl (by with_reducible first | exact fK0 | exact fK1 | exact fK2 | exact fK3 | exact fK4 | exact fK5 | exact fK6 | exact fE0 | exact fE1 | exact fE2 | exact fE3 | exact fA0 | exact fD0 | exact fD1) rfl ?_; refine Ops.fldO rfl rfl rfl (by with_reducible first | exact fK0 | exact fK1 | exact fK2 | exact fK3 | exact fK4 | exact fK5 | exact fK6 | exact fE0 | exact fE1 | exact fE2 | exact fE3 | exact fA0 | exact fD0 | exact fD1) rfl ?_; refine Ops.fldO rfl rfl rfl (by with_reducible first | exact fK0 | exact fK1 | exact fK2 | exact fK3 | exact fK4 | exact fK5 | exact fK6 | exact fE0 | exact fE1 | exact fE2 | exact fE3 | exact fA0 | exact fD0 | exact fD1) rfl ?_; refine Ops.fldO rfl rfl rfl (by with_reducible first | exact fK0 | exact fK1 | exact fK2 | exact fK3 | exact fK4 | exact fK5 | exact fK6 | exact fE0 | exact fE1 | exact fE2 | exact fE3 | exact fA0 | exact fD0 | exact fD1) rfl ?_; refine Ops.fldO rfl rfl rfl (by with_reducible first | exact fK0 | exact fK1 | exact fK2 | exact fK3 | exact fK4 | exact fK5 | exact fK6 | exact fE0 | exact fE1 | exact fE2 | exact fE3 | exact fA0 | exact fD0 | exact fD1) rfl ?_; refine Ops.fldO rfl rfl rfl (by with_reducible first | exact fK0 | exact fK1 | exact fK2 | exact fK3 | exact fK4 | exact fK5 | exact fK6 | exact fE0 | exact fE1 | exact fE2 | exact fE3 | exact fA0 | exact fD0 | exact fD1) rfl ?_; refine Ops.fldO rfl rfl rfl (by with_reducible first | exact fK0 | exact fK1 | exact fK2 | exact fK3 | exact fK4 | exact fK5 | exact fK6 | exact fE0 | exact fE1 | exact fE2 | exact fE3 | exact fA0 | exact fD0 | exact fD1) rfl ?_; refine Ops.fldO rfl rfl rfl (by with_reducible first | exact fK0 | exact fK1 | exact fK2 | exact fK3 | exact fK4 | exact fK5 | exact fK6 | exact fE0 | exact fE1 | exact fE2 | exact fE3 | exact fA0 | exact fD0 | exact fD1) rfl ?_; refine Ops.fldO rfl rfl rfl (by with_reducible first | exact fK0 | exact fK1 | exact fK2 | exact fK3 | exact fK4 | exact fK5 | exact fK6 | exact fE0 | exact fE1 | exact fE2 | exact fE3 | exact fA0 | exact fD0 | exact fD1) rfl ?_; refine Ops.fldO rfl rfl rfl (by with_reducible first | exact fK0 | exact fK1 | exact fK2 | exact fK3 | exact fK4 | exact fK5 | exact fK6 | exact fE0 | exact fE1 | exact fE2 | exact fE3 | exact fA0 | exact fD0 | exact fD1) rfl ?_; refine Ops.fldO rfl rfl rfl (by with_reducible first | exact fK0 | exact fK1 | exact fK2 | exact fK3 | exact fK4 | exact fK5 | exact fK6 | exact fE0 | exact fE1 | exact fE2 | exact fE3 | exact fA0 | exact fD0 | exact fD1) rfl ?_; refine Ops.ld1A rfl rfl rfl rfl rfl (by with_reducible first | exact lInt | exact lAddr | exact lAssume | exact lClaims | exact lIDs) rfl ?_; refine Ops.ld1A rfl rfl rfl rfl rfl (by with_reducible first | exact lInt | exact lAddr | exact lAssume | exact lClaims | exact lIDs) rfl ?_; refine Ops.ld1A rfl rfl rfl rfl rfl (by with_reducible first | exact lInt | exact lAddr | exact lAssume | exact lClaims | exact lIDs) rfl ?_; refine Ops.ld1A rfl rfl rfl rfl rfl (by with_reducible first | exact lInt | exact lAddr | exact lAssume | exact lClaims | exact lIDs) rfl ?_; refine Ops.ld1A rfl rfl rfl rfl rfl (by with_reducible first | exact lInt | exact lAddr | exact lAssume | exact lClaims | exact lIDs) rfl ?_; refine Ops.ld1A rfl rfl rfl rfl rfl (by with_reducible first | exact lInt | exact lAddr | exact lAssume | exact lClaims | exact lIDs) rfl ?_; refine Ops.ld1A rfl rfl rfl rfl rfl (by with_reducible first | exact lInt | exact lAddr | exact lAssume | exact lClaims | exact lIDs) rfl ?_; refine Ops.ld1A rfl rfl rfl rfl rfl (by with_reducible first | exact lInt | exact lAddr | exact lAssume | exact lClaims | exact lIDs) rfl ?_; refine Ops.ld1A rfl rfl rfl rfl rfl (by with_reducible first | exact lInt | exact lAddr | exact lAssume | exact lClaims | exact lIDs) rfl ?_; refine Ops.ld1A rfl rfl rfl rfl rfl (by with_reducible first | exact lInt | exact lAddr | exact lAssume | exact lClaims | exact lIDs) rfl ?_; refine Ops.ld1A rfl rfl rfl rfl rfl (by with_reducible first | exact lInt | exact lAddr | exact lAssume | exact lClaims | exact lIDs) rfl ?_; refine Ops.ld1A rfl rfl rfl rfl rfl (by with_reducible first | exact lInt | exact lAddr | exact lAssume | exact lClaims | exact lIDs) rfl ?_; refine Ops.ld1A rfl rfl rfl rfl rfl (by with_reducible first | exact lInt | exact lAddr | exact lAssume | exact lClaims | exact lIDs) rfl ?_; refine Ops.ld1A rfl rfl rfl rfl rfl (by with_reducible first | exact lInt | exact lAddr | exact lAssume | exact lClaims | exact lIDs) rfl ?_)
  refine Ops.call gocm (cm_ok _ _) rfl rfl rfl rfl ?_
  refine Ops.call gocmA (cmA_ok _ _) rfl rfl rfl rfl ?_
  refine Ops.call gocmA (cmA_ok _ _) rfl rfl rfl rfl ?_
  refine Ops.call gocm (cm_ok _ _) rfl rfl rfl rfl ?_
  refine Ops.call gocm (cm_ok _ _) rfl rfl rfl rfl ?_
  refine Ops.call gocm (cm_ok _ _) rfl rfl rfl rfl ?_
  refine Ops.call gocmS (cmS_ok _ _) rfl rfl rfl rfl ?_
  refine Ops.lit (m := 7) (cs := [intC (cmp3 c.k d.k), intC (cmp3 c.a d.a), intC (cmp3 c.b d.b), intC (cmp3 c.lo d.lo), intC (cmp3 c.hi d.hi), intC (cmp3 c.t d.t), intC (cmp3 c.s d.s)]) rfl rfl (by with_reducible exact sInts) (.one rfl rfl rfl rfl (.one rfl rfl rfl rfl (.one rfl rfl rfl rfl (.one rfl rfl rfl rfl (.one rfl rfl rfl rfl (.one rfl rfl rfl rfl (.one rfl rfl rfl rfl .nil))))))) (by decide) rfl ?_
  refine Ops.call goOr (Or_ok [cmp3 c.k d.k, cmp3 c.a d.a, cmp3 c.b d.b, cmp3 c.lo d.lo, cmp3 c.hi d.hi, cmp3 c.t d.t, cmp3 c.s d.s] (by simp)) rfl rfl rfl rfl ?_
  (refine Ops.assign rfl rfl rfl ?_; refine Ops.nil (hK _ _ ?_); clear hK K; refine Fin.then ?_; refine St.ret ?_)
  refine Fin.ret [_] rfl (AllRes.tmp rfl AllRes.nil) rfl rfl
end Go.Proofs.Ytkeoejfbbmdloaa
