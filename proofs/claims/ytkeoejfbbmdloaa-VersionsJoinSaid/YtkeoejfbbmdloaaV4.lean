/-
  Walks: ref38.Compare, ref38.Put.
-/
import Derived.Test.YtkeoejfbbmdloaaV3
import Derived.Test.YtkeoejfbbmdloaaK19
namespace Go.Proofs.Ytkeoejfbbmdloaa
open Go.Own
attribute [local irreducible] St Ops Go.Own.Fin Ok OkB OkN OkT OkL OkF

section
variable {X : Ctx} {L : AL} {B : BL} {ops : Array Oper} {K : Act → World → Prop} {r : Pl} {k : Kd}
  {x y : Operand} {d : Nat} {t t' : TypeId} {pos : String} {af : Array Edge} {g : Option (Nat × Bool)}
theorem ldCl {i j : Nat} {e : Ent} {l : List Cl} (hk : k.rd = true) (hg : gd ops L g = some true) (hx : ev L x = some (.loc i (j * 7))) (hi : bget B i = some e) (he : e.cs = cls l) (hj : j < l.length) (hT : LdN X.P t 7) (hn : Nat.blt d X.n = true)
    (h : Ops X ops r ((d, .ct (clC (l.getD j c0))) :: L) B K) : Ops X ops (.cons ⟨some d, .load t x, t', pos, af, g⟩ k r) L B K :=
  Ops.ldNA hk hg hx hi (by rw [he, cls_len]; omega) hT hn (by rw [he, cls_get hj]; exact h)
theorem stCl {i j el : Nat} {l : List Cl} {c : Cl} (hg : gd ops L g = some true) (hx : ev L x = some (.loc i (j * 7))) (hi : bget B i = some (.row el 7 (cls l))) (hy : ev L y = some (.ct (clC c))) (hj : j < l.length) (hsz : (X.P.info? t).map (·.size) = some 7)
    (h : Ops X ops r L (bset B i (.row el 7 (cls (l.set j c)))) K) : Ops X ops (.cons ⟨none, .store t x y, t', pos, af, g⟩ .any r) L B K :=
  Ops.stNA hg hx hi hy rfl hsz (by show j * 7 + 7 ≤ (cls l).length; rw [cls_len]; omega) (by
    have : (Ent.row el 7 (cls l)).putc (j * 7) (clCs c) = .row el 7 (cls (l.set j c)) := by rw [← cls_put c hj]; rfl
    rw [this]; exact h)
theorem stClX {i j el : Nat} {v0 : Value} {l : List Cl} {c : Cl} (hg : gd ops L g = some true) (hx : ev L x = some (.loc i (j * 7))) (hi : bget B i = some (.rowx v0 el 7 (cls l))) (hy : ev L y = some (.ct (clC c))) (hj : j < l.length) (hsz : (X.P.info? t).map (·.size) = some 7)
    (h : Ops X ops r L (bset B i (.rowx v0 el 7 (cls (l.set j c)))) K) : Ops X ops (.cons ⟨none, .store t x y, t', pos, af, g⟩ .any r) L B K :=
  Ops.stNA hg hx hi hy rfl hsz (by show j * 7 + 7 ≤ (cls l).length; rw [cls_len]; omega) (by
    have : (Ent.rowx v0 el 7 (cls l)).putc (j * 7) (clCs c) = .rowx v0 el 7 (cls (l.set j c)) := by rw [← cls_put c hj]; rfl
    rw [this]; exact h)
end

/-- Addresses have 32 bits. -/
structure U (c : Cl) : Prop where
  a0 : 0 ≤ c.a
  a1 : c.a < 4294967296
  b0 : 0 ≤ c.b
  b1 : c.b < 4294967296
theorem aPair : ArrT Try.prog 82 3 2 1 (.agg #[.int .i64 0, .int .i64 0]) := ⟨Try.underlying82, by kernel_rfl, by kernel_rfl⟩
theorem aPairs : ArrT Try.prog 83 82 7 2 (.agg #[.int .i64 0, .int .i64 0, .int .i64 0, .int .i64 0, .int .i64 0, .int .i64 0, .int .i64 0, .int .i64 0, .int .i64 0, .int .i64 0, .int .i64 0, .int .i64 0, .int .i64 0, .int .i64 0]) := ⟨Try.underlying83, by kernel_rfl, by kernel_rfl⟩
theorem uPair : Try.prog.underlying 82 = some (.array 2 3) := Try.underlying82
theorem szPair : (Try.prog.info? 82).map (·.size) = some 2 := by kernel_rfl
theorem zvPair : (Try.prog.info? 82).map (·.zero) = some (some (.agg #[.int .i64 0, .int .i64 0])) := by kernel_rfl

abbrev pr (p q : Int) : List CT := [intC p, intC q]
def prs (xs ys : List Int) : List (List CT) := List.zipWith pr xs ys
theorem prs_at {xs ys : List Int} {j : Nat} (h1 : j < xs.length) (h2 : j < ys.length) : (prs xs ys)[j]? = some (pr (xs.getD j 0) (ys.getD j 0)) := by
  simp [prs, List.getElem?_zipWith, List.getElem?_eq_getElem h1, List.getElem?_eq_getElem h2, List.getD_eq_getElem?_getD]
theorem prs_len (xs ys : List Int) : ∀ e ∈ prs xs ys, e.length = 2 := fun e he => by
  unfold prs at he
  rw [List.mem_iff_getElem?] at he
  obtain ⟨i, hi⟩ := he
  rw [List.getElem?_zipWith] at hi
  split at hi
  · injection hi with hi; subst hi; rfl
  · cases hi
theorem cmpL_drop {xs ys : List Int} {j : Nat} (h1 : j < xs.length) (h2 : j < ys.length) : cmpL (xs.drop j) (ys.drop j) = if cmp3 (xs.getD j 0) (ys.getD j 0) ≠ 0 then cmp3 (xs.getD j 0) (ys.getD j 0) else cmpL (xs.drop (j + 1)) (ys.drop (j + 1)) := by
  rw [List.drop_eq_getElem_cons h1, List.drop_eq_getElem_cons h2, List.getD_eq_getElem?_getD, List.getElem?_eq_getElem h1, List.getD_eq_getElem?_getD, List.getElem?_eq_getElem h2]; rfl

theorem gorCmp : InGo Try.prog 30 := InGo.of Try.func30 rfl (by decide)
set_option maxHeartbeats 4000000 in
theorem rCmp_ok (c d : Cl) (hc : U c) (hd : U d) : Ok Try.prog 30 [clC c, clC d] (intC (cmpC c d)) := by
  refine Ok.enter Try.func30 rfl _ Try.ntmps30 rfl ?_
  intro S w
  have w1 := hc.a0; have w2 := hc.a1; have w3 := hc.b0; have w4 := hc.b1
  have w5 := hd.a0; have w6 := hd.a1; have w7 := hd.b0; have w8 := hd.b1
  (refine St.seq ?_; refine St.regionK (fun K hK => ?_); refine Ops.boxN 0 rfl rfl rfl rfl rfl rfl rfl ?_; refine Ops.boxN 1 rfl rfl rfl rfl rfl rfl rfl ?_; refine Ops.assign rfl rfl rfl ?_; refine Ops.nil (hK _ _ ?_); clear hK K; refine Fin.then ?_; refine St.seq ?_; refine St.seq ?_; refine St.regionK (fun K hK => ?_); refine Ops.fldO rfl rfl rfl (by with_reducible first | exact fK0 | exact fK1 | exact fK2 | exact fK3 | exact fK4 | exact fK5 | exact fK6 | exact fE0 | exact fE1 | exact fE2 | exact fE3 | exact fA0 | exact fD0 | exact fD1) rfl ?_; refine Ops.ld1A rfl rfl rfl rfl rfl (by with_reducible first | exact lInt | exact lAddr | exact lAssume | exact lClaims | exact lIDs) rfl ?_; refine Ops.fldO rfl rfl rfl (by with_reducible first | exact fK0 | exact fK1 | exact fK2 | exact fK3 | exact fK4 | exact fK5 | exact fK6 | exact fE0 | exact fE1 | exact fE2 | exact fE3 | exact fA0 | exact fD0 | exact fD1) rfl ?_; refine Ops.ld1A rfl rfl rfl rfl rfl (by with_reducible first | exact lInt | exact lAddr | exact lAssume | exact lClaims | exact lIDs) rfl ?_)
  refine Ops.buildA (n := 1) (cs := pr c.k d.k) rfl (by with_reducible exact aPair) (.one rfl rfl rfl rfl (.one rfl rfl rfl rfl .nil)) rfl ?_
  (refine Ops.fldO rfl rfl rfl (by with_reducible first | exact fK0 | exact fK1 | exact fK2 | exact fK3 | exact fK4 | exact fK5 | exact fK6 | exact fE0 | exact fE1 | exact fE2 | exact fE3 | exact fA0 | exact fD0 | exact fD1) rfl ?_; refine Ops.ld1A rfl rfl rfl rfl rfl (by with_reducible first | exact lInt | exact lAddr | exact lAssume | exact lClaims | exact lIDs) rfl ?_)
  refine Ops.conv (q := c.a) rfl rfl (by with_reducible exact uAddr) (by with_reducible exact uInt') (wrap_id (by omega) (by omega)) rfl ?_
  (refine Ops.fldO rfl rfl rfl (by with_reducible first | exact fK0 | exact fK1 | exact fK2 | exact fK3 | exact fK4 | exact fK5 | exact fK6 | exact fE0 | exact fE1 | exact fE2 | exact fE3 | exact fA0 | exact fD0 | exact fD1) rfl ?_; refine Ops.ld1A rfl rfl rfl rfl rfl (by with_reducible first | exact lInt | exact lAddr | exact lAssume | exact lClaims | exact lIDs) rfl ?_)
  refine Ops.conv (q := d.a) rfl rfl (by with_reducible exact uAddr) (by with_reducible exact uInt') (wrap_id (by omega) (by omega)) rfl ?_
  refine Ops.buildA (n := 1) (cs := pr c.a d.a) rfl (by with_reducible exact aPair) (.one rfl rfl rfl rfl (.one rfl rfl rfl rfl .nil)) rfl ?_
  (refine Ops.fldO rfl rfl rfl (by with_reducible first | exact fK0 | exact fK1 | exact fK2 | exact fK3 | exact fK4 | exact fK5 | exact fK6 | exact fE0 | exact fE1 | exact fE2 | exact fE3 | exact fA0 | exact fD0 | exact fD1) rfl ?_; refine Ops.ld1A rfl rfl rfl rfl rfl (by with_reducible first | exact lInt | exact lAddr | exact lAssume | exact lClaims | exact lIDs) rfl ?_)
  refine Ops.conv (q := c.b) rfl rfl (by with_reducible exact uAddr) (by with_reducible exact uInt') (wrap_id (by omega) (by omega)) rfl ?_
  (refine Ops.fldO rfl rfl rfl (by with_reducible first | exact fK0 | exact fK1 | exact fK2 | exact fK3 | exact fK4 | exact fK5 | exact fK6 | exact fE0 | exact fE1 | exact fE2 | exact fE3 | exact fA0 | exact fD0 | exact fD1) rfl ?_; refine Ops.ld1A rfl rfl rfl rfl rfl (by with_reducible first | exact lInt | exact lAddr | exact lAssume | exact lClaims | exact lIDs) rfl ?_)
  refine Ops.conv (q := d.b) rfl rfl (by with_reducible exact uAddr) (by with_reducible exact uInt') (wrap_id (by omega) (by omega)) rfl ?_
  refine Ops.buildA (n := 1) (cs := pr c.b d.b) rfl (by with_reducible exact aPair) (.one rfl rfl rfl rfl (.one rfl rfl rfl rfl .nil)) rfl ?_
  (refine Ops.fldO rfl rfl rfl (by with_reducible first | exact fK0 | exact fK1 | exact fK2 | exact fK3 | exact fK4 | exact fK5 | exact fK6 | exact fE0 | exact fE1 | exact fE2 | exact fE3 | exact fA0 | exact fD0 | exact fD1) rfl ?_; refine Ops.ld1A rfl rfl rfl rfl rfl (by with_reducible first | exact lInt | exact lAddr | exact lAssume | exact lClaims | exact lIDs) rfl ?_; refine Ops.fldO rfl rfl rfl (by with_reducible first | exact fK0 | exact fK1 | exact fK2 | exact fK3 | exact fK4 | exact fK5 | exact fK6 | exact fE0 | exact fE1 | exact fE2 | exact fE3 | exact fA0 | exact fD0 | exact fD1) rfl ?_; refine Ops.ld1A rfl rfl rfl rfl rfl (by with_reducible first | exact lInt | exact lAddr | exact lAssume | exact lClaims | exact lIDs) rfl ?_)
  refine Ops.buildA (n := 1) (cs := pr c.lo d.lo) rfl (by with_reducible exact aPair) (.one rfl rfl rfl rfl (.one rfl rfl rfl rfl .nil)) rfl ?_
  (refine Ops.fldO rfl rfl rfl (by with_reducible first | exact fK0 | exact fK1 | exact fK2 | exact fK3 | exact fK4 | exact fK5 | exact fK6 | exact fE0 | exact fE1 | exact fE2 | exact fE3 | exact fA0 | exact fD0 | exact fD1) rfl ?_; refine Ops.ld1A rfl rfl rfl rfl rfl (by with_reducible first | exact lInt | exact lAddr | exact lAssume | exact lClaims | exact lIDs) rfl ?_; refine Ops.fldO rfl rfl rfl (by with_reducible first | exact fK0 | exact fK1 | exact fK2 | exact fK3 | exact fK4 | exact fK5 | exact fK6 | exact fE0 | exact fE1 | exact fE2 | exact fE3 | exact fA0 | exact fD0 | exact fD1) rfl ?_; refine Ops.ld1A rfl rfl rfl rfl rfl (by with_reducible first | exact lInt | exact lAddr | exact lAssume | exact lClaims | exact lIDs) rfl ?_)
  refine Ops.buildA (n := 1) (cs := pr c.hi d.hi) rfl (by with_reducible exact aPair) (.one rfl rfl rfl rfl (.one rfl rfl rfl rfl .nil)) rfl ?_
  (refine Ops.fldO rfl rfl rfl (by with_reducible first | exact fK0 | exact fK1 | exact fK2 | exact fK3 | exact fK4 | exact fK5 | exact fK6 | exact fE0 | exact fE1 | exact fE2 | exact fE3 | exact fA0 | exact fD0 | exact fD1) rfl ?_; refine Ops.ld1A rfl rfl rfl rfl rfl (by with_reducible first | exact lInt | exact lAddr | exact lAssume | exact lClaims | exact lIDs) rfl ?_; refine Ops.fldO rfl rfl rfl (by with_reducible first | exact fK0 | exact fK1 | exact fK2 | exact fK3 | exact fK4 | exact fK5 | exact fK6 | exact fE0 | exact fE1 | exact fE2 | exact fE3 | exact fA0 | exact fD0 | exact fD1) rfl ?_; refine Ops.ld1A rfl rfl rfl rfl rfl (by with_reducible first | exact lInt | exact lAddr | exact lAssume | exact lClaims | exact lIDs) rfl ?_)
  refine Ops.buildA (n := 1) (cs := pr c.t d.t) rfl (by with_reducible exact aPair) (.one rfl rfl rfl rfl (.one rfl rfl rfl rfl .nil)) rfl ?_
  (refine Ops.fldO rfl rfl rfl (by with_reducible first | exact fK0 | exact fK1 | exact fK2 | exact fK3 | exact fK4 | exact fK5 | exact fK6 | exact fE0 | exact fE1 | exact fE2 | exact fE3 | exact fA0 | exact fD0 | exact fD1) rfl ?_; refine Ops.ld1A rfl rfl rfl rfl rfl (by with_reducible first | exact lInt | exact lAddr | exact lAssume | exact lClaims | exact lIDs) rfl ?_; refine Ops.fldO rfl rfl rfl (by with_reducible first | exact fK0 | exact fK1 | exact fK2 | exact fK3 | exact fK4 | exact fK5 | exact fK6 | exact fE0 | exact fE1 | exact fE2 | exact fE3 | exact fA0 | exact fD0 | exact fD1) rfl ?_; refine Ops.ld1A rfl rfl rfl rfl rfl (by with_reducible first | exact lInt | exact lAddr | exact lAssume | exact lClaims | exact lIDs) rfl ?_)
  refine Ops.buildA (n := 1) (cs := pr c.s d.s) rfl (by with_reducible exact aPair) (.one rfl rfl rfl rfl (.one rfl rfl rfl rfl .nil)) rfl ?_
  refine Ops.buildA (n := 2) (zv := (.agg #[.int .i64 0, .int .i64 0, .int .i64 0, .int .i64 0, .int .i64 0, .int .i64 0, .int .i64 0, .int .i64 0, .int .i64 0, .int .i64 0, .int .i64 0, .int .i64 0, .int .i64 0, .int .i64 0])) (cs := [intC c.k, intC d.k, intC c.a, intC d.a, intC c.b, intC d.b, intC c.lo, intC d.lo, intC c.hi, intC d.hi, intC c.t, intC d.t, intC c.s, intC d.s]) rfl (by with_reducible exact aPairs) (.aggE [intC c.k, intC d.k, intC 0, intC 0, intC 0, intC 0, intC 0, intC 0, intC 0, intC 0, intC 0, intC 0, intC 0, intC 0] rfl rfl rfl rfl rfl (.aggE [intC c.k, intC d.k, intC c.a, intC d.a, intC 0, intC 0, intC 0, intC 0, intC 0, intC 0, intC 0, intC 0, intC 0, intC 0] rfl rfl rfl rfl rfl (.aggE [intC c.k, intC d.k, intC c.a, intC d.a, intC c.b, intC d.b, intC 0, intC 0, intC 0, intC 0, intC 0, intC 0, intC 0, intC 0] rfl rfl rfl rfl rfl (.aggE [intC c.k, intC d.k, intC c.a, intC d.a, intC c.b, intC d.b, intC c.lo, intC d.lo, intC 0, intC 0, intC 0, intC 0, intC 0, intC 0] rfl rfl rfl rfl rfl (.aggE [intC c.k, intC d.k, intC c.a, intC d.a, intC c.b, intC d.b, intC c.lo, intC d.lo, intC c.hi, intC d.hi, intC 0, intC 0, intC 0, intC 0] rfl rfl rfl rfl rfl (.aggE [intC c.k, intC d.k, intC c.a, intC d.a, intC c.b, intC d.b, intC c.lo, intC d.lo, intC c.hi, intC d.hi, intC c.t, intC d.t, intC 0, intC 0] rfl rfl rfl rfl rfl (.aggE [intC c.k, intC d.k, intC c.a, intC d.a, intC c.b, intC d.b, intC c.lo, intC d.lo, intC c.hi, intC d.hi, intC c.t, intC d.t, intC c.s, intC d.s] rfl rfl rfl rfl rfl .nil))))))) rfl ?_
  have hpr : [intC c.k, intC d.k, intC c.a, intC d.a, intC c.b, intC d.b, intC c.lo, intC d.lo, intC c.hi, intC d.hi, intC c.t, intC d.t, intC c.s, intC d.s] = (prs (clI c) (clI d)).flatten := rfl
  rw [hpr]
  (refine Ops.move rfl rfl rfl ?_; refine Ops.nil (hK _ _ ?_); clear hK K; refine Fin.then ?_; refine St.block ?_)
  have hlx : (clI c).length = 7 := rfl
  have hly : (clI d).length = 7 := rfl
  refine St.loop (α := Nat) (fun j => j ≤ 7 ∧ cmpL ((clI c).drop j) ((clI d).drop j) = cmpC c d)
    (fun j => [(46, .ct (.fr (aggT (prs (clI c) (clI d)).flatten))), (47, .ct (intC j))]) (fun _ => [(1, .box 52 (clCs d)), (0, .box 52 (clCs c))]) (fun j => 7 - j) 0 ⟨Nat.zero_le _, rfl⟩ (by exact Entails.of rfl ⟨rfl, rfl, trivial⟩) ?_
  rintro j ⟨hj, hc⟩
  dsimp only at hj hc ⊢
  generalize clI c = xs at hlx hc
  generalize clI d = ys at hly hc
  (refine St.seq ?_; refine St.regionK (fun K hK => ?_); refine Ops.ibin ilss rfl rfl rfl rfl ?_; refine Ops.nil (hK _ _ ?_); clear hK K; refine Fin.then ?_; refine St.seq ?_)
  refine St.condP rfl (fun h => ?_) (fun h => ?_)
  · have h1 : j < xs.length := by omega
    have h2 : j < ys.length := by omega
    have hdr := cmpL_drop h1 h2
    have hat := prs_at h1 h2
    generalize xs.getD j 0 = p at hdr hat
    generalize ys.getD j 0 = q at hdr hat
    (refine St.skip ?_; refine Fin.then ?_; refine St.seq ?_; refine St.block ?_; refine St.seq ?_; refine St.regionK (fun K hK => ?_))
    refine Ops.idxV (n := 2) rfl rfl rfl (by with_reducible exact aPairs) (by with_reducible exact uPair) rfl (prs_len xs ys) (by omega) (by omega) (by rw [Int.toNat_natCast]; exact hat) rfl ?_
    refine Ops.alloc 2 rfl rfl (by with_reducible exact zvPair) rfl rfl rfl ?_
    refine Ops.stWN 2 rfl rfl rfl rfl rfl (by with_reducible exact szPair) rfl rfl ?_
    (refine Ops.nil (hK _ _ ?_); clear hK K; refine Fin.then ?_; refine St.seq ?_; refine St.seq ?_; refine St.regionK (fun K hK => ?_))
    refine Ops.idxO (n := 1) rfl rfl rfl rfl (by with_reducible exact aPair) (by decide) (by decide) rfl ?_
    (refine Ops.ld1A rfl rfl rfl rfl rfl (by with_reducible first | exact lInt | exact lAddr | exact lAssume | exact lClaims | exact lIDs) rfl ?_)
    refine Ops.idxO (n := 1) rfl rfl rfl rfl (by with_reducible exact aPair) (by decide) (by decide) rfl ?_
    (refine Ops.ld1A rfl rfl rfl rfl rfl (by with_reducible first | exact lInt | exact lAddr | exact lAssume | exact lClaims | exact lIDs) rfl ?_; refine Ops.ibin ilss rfl rfl rfl rfl ?_; refine Ops.nil (hK _ _ ?_); clear hK K; refine Fin.then ?_)
    refine St.condP rfl (fun h3 => ?_) (fun h3 => ?_)
    · (refine St.seq ?_; refine St.regionK (fun K hK => ?_); refine Ops.assign rfl rfl rfl ?_; refine Ops.nil (hK _ _ ?_); clear hK K; refine Fin.then ?_; refine St.ret ?_; refine Fin.thenRet ?_; refine Fin.blockRet ?_; refine Fin.thenRet ?_; refine Fin.thenRet ?_; refine Fin.blockRet ?_; refine Fin.thenRet ?_)
      have e : cmp3 p q = -1 := by rw [cmp3_eq, if_pos h3]
      refine Fin.ret [_] rfl (AllRes.tmp rfl AllRes.nil) (by rw [← hc, hdr, e]; rfl) rfl
    · (refine St.skip ?_; refine Fin.then ?_; refine St.seq ?_; refine St.regionK (fun K hK => ?_))
      refine Ops.idxO (n := 1) rfl rfl rfl rfl (by with_reducible exact aPair) (by decide) (by decide) rfl ?_
      (refine Ops.ld1A rfl rfl rfl rfl rfl (by with_reducible first | exact lInt | exact lAddr | exact lAssume | exact lClaims | exact lIDs) rfl ?_)
      refine Ops.idxO (n := 1) rfl rfl rfl rfl (by with_reducible exact aPair) (by decide) (by decide) rfl ?_
      (refine Ops.ld1A rfl rfl rfl rfl rfl (by with_reducible first | exact lInt | exact lAddr | exact lAssume | exact lClaims | exact lIDs) rfl ?_; refine Ops.ibin igtr rfl rfl rfl rfl ?_; refine Ops.nil (hK _ _ ?_); clear hK K; refine Fin.then ?_)
      refine St.condP rfl (fun h4 => ?_) (fun h4 => ?_)
      · (refine St.seq ?_; refine St.regionK (fun K hK => ?_); refine Ops.assign rfl rfl rfl ?_; refine Ops.nil (hK _ _ ?_); clear hK K; refine Fin.then ?_; refine St.ret ?_; refine Fin.blockRet ?_; refine Fin.thenRet ?_; refine Fin.thenRet ?_; refine Fin.blockRet ?_; refine Fin.thenRet ?_)
        have e : cmp3 p q = 1 := by rw [cmp3_eq, if_neg h3, if_pos h4]
        refine Fin.ret [_] rfl (AllRes.tmp rfl AllRes.nil) (by rw [← hc, hdr, e]; rfl) rfl
      · (refine St.skip ?_; refine Fin.then ?_; refine St.regionK (fun K hK => ?_); refine Ops.ibin (iadd (by omega) (by omega)) rfl rfl rfl rfl ?_; refine Ops.move rfl rfl rfl ?_; refine Ops.nil (hK _ _ ?_); clear hK K; refine Fin.thenN ?_)
        have e : cmp3 p q = 0 := by rw [cmp3_eq, if_neg h3, if_neg h4]
        rw [e] at hdr
        refine Fin.dropB 2 ?_
        refine Fin.next (j + 1) (by omega) ⟨by omega, by rw [← hc, hdr]; rfl⟩ (by exact Entails.of rfl ⟨rfl, by simp only [Int.natCast_add]; rfl, trivial⟩)
  · (refine St.exit ?_; refine Fin.then ?_; refine St.seq ?_; refine St.regionK (fun K hK => ?_); refine Ops.assign rfl rfl rfl ?_; refine Ops.nil (hK _ _ ?_); clear hK K; refine Fin.then ?_; refine St.ret ?_)
    have hj' : j = 7 := by omega
    refine Fin.ret [_] rfl (AllRes.tmp rfl AllRes.nil) (by rw [← hc, hj', List.drop_of_length_le (by omega)]; rfl) rfl
end Go.Proofs.Ytkeoejfbbmdloaa
