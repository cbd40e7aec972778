/-
  Walks: bits.Len, slices.pdqsortCmpFunc (short lists), slices.SortFunc, slices.Compact, versions.sorted.
-/
import Derived.Test.YtkeoejfbbmdloaaV6
namespace Go.Proofs.Ytkeoejfbbmdloaa
open Go.Own
attribute [local irreducible] St Ops Go.Own.Fin Ok OkB OkN OkT OkL OkF

abbrev u64C (x : Int) : CT := .ex (.int .u64 x)
/-- Some integer. -/
abbrev limC : CT := .fr (exT (fun _ : Int => True) intC)
theorem w_lim {x : Int} : ∀ S w v, (intC x).p S w v → limC.p S w v := fun _ _ _ h => ⟨x, trivial, h⟩
theorem uStr : Try.prog.underlying 9 = some .string := Try.underlying9
theorem uU8' : Try.prog.underlying 5 = some (.int .u8) := Try.underlying5
theorem uUint : Try.prog.underlying 86 = some (.int .u64) := Try.underlying86
theorem uU64' : Try.prog.underlying 101 = some (.int .u64) := Try.underlying101
theorem wrap_u8 {n : Int} (h1 : 0 ≤ n) (h2 : n < 256) : IntKind.u8.wrap n = n := by
  rw [show IntKind.u8.wrap n = n % 256 by simp [IntKind.wrap, IntKind.bits, IntKind.signed]]; omega

theorem goLen64 : InGo Try.prog 57 := InGo.of Try.func57 rfl (by decide)
theorem Len64_ok (n : Int) (h0 : 0 ≤ n) (h1 : n < 256) : Ok Try.prog 57 [u64C n] limC := by
  refine Ok.enter Try.func57 rfl _ Try.ntmps57 rfl ?_
  intro S w
  (refine St.seq ?_; refine St.regionK (fun K hK => ?_); refine Ops.assign rfl rfl rfl ?_; refine Ops.nil (hK _ _ ?_); clear hK K; refine Fin.then ?_; refine St.seq ?_; refine St.seq ?_; refine St.regionK (fun K hK => ?_); refine Ops.move rfl rfl rfl ?_; refine Ops.ibin igeq rfl rfl rfl rfl ?_; refine Ops.nil (hK _ _ ?_); clear hK K; refine Fin.then ?_)
  refine St.condP rfl (fun h => by exfalso; omega) (fun _ => ?_)
  (refine St.skip ?_; refine Fin.then ?_; refine St.seq ?_; refine St.seq ?_; refine St.regionK (fun K hK => ?_); refine Ops.move rfl rfl rfl ?_; refine Ops.ibin igeq rfl rfl rfl rfl ?_; refine Ops.nil (hK _ _ ?_); clear hK K; refine Fin.then ?_)
  refine St.condP rfl (fun h => by exfalso; omega) (fun _ => ?_)
  (refine St.skip ?_; refine Fin.then ?_; refine St.seq ?_; refine St.seq ?_; refine St.regionK (fun K hK => ?_); refine Ops.move rfl rfl rfl ?_; refine Ops.ibin igeq rfl rfl rfl rfl ?_; refine Ops.nil (hK _ _ ?_); clear hK K; refine Fin.then ?_)
  refine St.condP rfl (fun h => by exfalso; omega) (fun _ => ?_)
  (refine St.skip ?_; refine Fin.then ?_; refine St.seq ?_; refine St.regionK (fun K hK => ?_); refine Ops.move rfl rfl rfl ?_; refine Ops.move rfl rfl rfl ?_)
  refine Ops.conv (q := n) rfl rfl (by with_reducible exact uU64') (by with_reducible exact uU8') (wrap_u8 h0 h1) rfl ?_
  refine Ops.idxSe rfl rfl rfl (by with_reducible exact uStr) h0 (by kernel_rfl) (by omega) rfl (fun b => ?_)
  have hb : ((b.toNat : Nat) : Int) < 256 := by have := b.toNat_lt; omega
  refine Ops.conv (q := b.toNat) rfl rfl (by with_reducible exact uU8') (by with_reducible exact uInt') (wrap_id (by omega) (by omega)) rfl ?_
  (refine Ops.ibin (iadd (by omega) (by omega)) rfl rfl rfl rfl ?_; refine Ops.assign rfl rfl rfl ?_; refine Ops.nil (hK _ _ ?_); clear hK K; refine Fin.then ?_; refine St.ret ?_)
  refine Fin.ret [_] rfl (AllRes.weak w_lim (AllRes.tmp rfl AllRes.nil)) rfl rfl
theorem goLen : InGo Try.prog 43 := InGo.of Try.func43 rfl (by decide)
theorem Len_ok (n : Int) (h0 : 0 ≤ n) (h1 : n < 256) : Ok Try.prog 43 [u64C n] limC := by
  refine Ok.enter Try.func43 rfl _ Try.ntmps43 rfl ?_
  intro S w
  (refine St.seq ?_; refine St.regionK (fun K hK => ?_); refine Ops.assign rfl rfl rfl ?_; refine Ops.nil (hK _ _ ?_); clear hK K; refine Fin.then ?_; refine St.seq ?_; refine St.condF rfl ?_; refine St.skip ?_; refine Fin.then ?_; refine St.seq ?_; refine St.regionK (fun K hK => ?_); refine Ops.move rfl rfl rfl ?_)
  refine Ops.call goLen64 (Len64_ok n h0 h1) rfl rfl rfl rfl ?_
  (refine Ops.assign rfl rfl rfl ?_; refine Ops.nil (hK _ _ ?_); clear hK K; refine Fin.then ?_; refine St.ret ?_)
  refine Fin.ret [_] rfl (AllRes.tmp rfl AllRes.nil) rfl rfl

/-- A short list of claims, sorted by insertion. -/
def srt (l : List Cl) : List Cl := isort l (l.length - 1)
theorem srt_len (l : List Cl) : (srt l).length = l.length := isort_len _ _
theorem gopdq : InGo Try.prog 42 := InGo.of Try.func42 rfl (by decide)
set_option maxHeartbeats 4000000 in
theorem pdq_ok (l : List Cl) (hl : l.length ≤ 12) : OkL Try.prog 42 52 7 (cls l) [intC 0, intC l.length, limC, cmpV] unitC (cls (srt l)) := by
  refine OkL.enter Try.func42 rfl _ Try.ntmps42 rfl ?_
  intro S w h0
  (refine St.seq ?_; refine St.regionK (fun K hK => ?_); refine Ops.assign rfl rfl rfl ?_; refine Ops.nil (hK _ _ ?_); clear hK K; refine Fin.then ?_; refine St.seq ?_; refine St.regionK (fun K hK => ?_); refine Ops.assign rfl rfl rfl ?_; refine Ops.nil (hK _ _ ?_); clear hK K; refine Fin.then ?_; refine St.block ?_)
  refine St.loop (α := Unit) (fun _ => True)
    (fun _ => [(0, .own 0), (1, .ct (intC 0)), (2, .ct (intC l.length)), (4, .ct cmpV)]) (fun _ => [(0, .rowx h0 52 7 (cls l))]) (fun _ => 0) () trivial (by exact Entails.of rfl ⟨rfl, rfl, rfl, rfl, trivial⟩) ?_
  rintro - -
  (refine St.block ?_; refine St.seq ?_; refine St.regionK (fun K hK => ?_); refine Ops.move rfl rfl rfl ?_; refine Ops.move rfl rfl rfl ?_; refine Ops.ibin (isub (by omega) (by omega)) rfl rfl rfl rfl ?_; refine Ops.assign rfl rfl rfl ?_; refine Ops.nil (hK _ _ ?_); clear hK K; refine Fin.then ?_; refine St.seq ?_; refine St.seq ?_; refine St.regionK (fun K hK => ?_); refine Ops.move rfl rfl rfl ?_; refine Ops.ibin ileq rfl rfl rfl rfl ?_; refine Ops.nil (hK _ _ ?_); clear hK K; refine Fin.then ?_)
  refine St.condP rfl (fun _ => ?_) (fun h => by exfalso; omega)
  (refine St.seq ?_; refine St.regionK (fun K hK => ?_); refine Ops.move rfl rfl rfl ?_; refine Ops.move rfl rfl rfl ?_; refine Ops.move rfl rfl rfl ?_; refine Ops.move rfl rfl rfl ?_)
  refine Ops.callLX goIns (Ins_ok l (by omega)) rfl rfl rfl rfl rfl ?_
  (refine Ops.nil (hK _ _ ?_); clear hK K; refine Fin.then ?_; refine St.ret ?_; refine Fin.thenRet ?_; refine Fin.blockRet ?_; refine Fin.thenRet ?_; refine Fin.blockRet ?_)
  refine Fin.retL [] rfl AllRes.nil rfl rfl

theorem goSort : InGo Try.prog 32 := InGo.of Try.func32 rfl (by decide)
theorem Sort_ok (l : List Cl) (hl : l.length ≤ 12) : OkL Try.prog 32 52 7 (cls l) [cmpV] unitC (cls (srt l)) := by
  refine OkL.enter Try.func32 rfl _ Try.ntmps32 rfl ?_
  intro S w h0
  (refine St.seq ?_; refine St.regionK (fun K hK => ?_); refine Ops.move rfl rfl rfl ?_; refine Ops.lenX _ rfl rfl rfl (by decide) (cls_len _) (by with_reducible exact sClaims.und) rfl ?_; refine Ops.assign rfl rfl rfl ?_; refine Ops.nil (hK _ _ ?_); clear hK K; refine Fin.then ?_; refine St.regionK (fun K hK => ?_); refine Ops.move rfl rfl rfl ?_; refine Ops.move rfl rfl rfl ?_; refine Ops.move rfl rfl rfl ?_)
  refine Ops.conv (q := l.length) rfl rfl (by with_reducible exact uInt') (by with_reducible exact uUint) (wrap_u (by omega) (by omega)) rfl ?_
  refine Ops.call goLen (Len_ok l.length (by omega) (by omega)) rfl rfl rfl rfl ?_
  (refine Ops.move rfl rfl rfl ?_)
  refine Ops.callLX gopdq (pdq_ok l hl) rfl rfl rfl rfl rfl ?_
  (refine Ops.nil (hK _ _ ?_); clear hK K)
  refine Fin.endL [] rfl AllRes.nil rfl rfl

theorem cmp3_self (x : Int) : cmp3 x x = 0 := by unfold cmp3; rw [if_neg (Int.lt_irrefl _), if_neg (Int.lt_irrefl _)]
theorem cmpL_self (xs : List Int) : cmpL xs xs = 0 := by
  induction xs with
  | nil => rfl
  | cons x xs ih => simp only [cmpL, cmp3_self]; exact ih
theorem cmpC_self (c : Cl) : cmpC c c = 0 := cmpL_self _

theorem goCompact : InGo Try.prog 33 := InGo.of Try.func33 rfl (by decide)
set_option maxHeartbeats 4000000 in
theorem Compact_ok (l : List Cl) (hl : l.length ≤ 1000) (ha : Asc l) : OkT Try.prog 33 52 7 (cls l) [] (cls l) := by
  refine OkT.enter Try.func33 rfl _ Try.ntmps33 rfl ?_
  intro S w h0
  (refine St.seq ?_; refine St.regionK (fun K hK => ?_); refine Ops.assign rfl rfl rfl ?_; refine Ops.nil (hK _ _ ?_); clear hK K; refine Fin.then ?_; refine St.seq ?_; refine St.seq ?_; refine St.regionK (fun K hK => ?_); refine Ops.move rfl rfl rfl ?_; refine Ops.lenR _ rfl rfl rfl (by decide) (cls_len _) (by with_reducible exact sClaims.und) rfl ?_; refine Ops.ibin ilss rfl rfl rfl rfl ?_; refine Ops.nil (hK _ _ ?_); clear hK K; refine Fin.then ?_)
  refine St.condP rfl (fun _ => ?_) (fun _ => ?_)
  · (refine St.seq ?_; refine St.regionK (fun K hK => ?_); refine Ops.move rfl rfl rfl ?_; refine Ops.assign rfl rfl rfl ?_; refine Ops.nil (hK _ _ ?_); clear hK K; refine Fin.then ?_; refine St.ret ?_; refine Fin.thenRet ?_)
    refine Fin.retT rfl rfl rfl
  · (refine St.skip ?_; refine Fin.then ?_; refine St.seq ?_; refine St.seq ?_; refine St.regionK (fun K hK => ?_); refine Ops.assign rfl rfl rfl ?_; refine Ops.nil (hK _ _ ?_); clear hK K; refine Fin.then ?_; refine St.block ?_)
    refine St.loop (α := Nat) (fun i => i ≤ l.length)
      (fun i => [(0, .own 0), (3, .ct (intC (i + 1)))]) (fun _ => [(0, .row 52 7 (cls l))]) (fun i => l.length - i) 0 (Nat.zero_le _) (by exact Entails.of rfl ⟨rfl, rfl, trivial⟩) ?_
    intro i hi
    try dsimp only at hi
    try dsimp only
    (refine St.seq ?_; refine St.seq ?_; refine St.regionK (fun K hK => ?_); refine Ops.move rfl rfl rfl ?_; refine Ops.move rfl rfl rfl ?_; refine Ops.lenR _ rfl rfl rfl (by decide) (cls_len _) (by with_reducible exact sClaims.und) rfl ?_; refine Ops.ibin ilss rfl rfl rfl rfl ?_; refine Ops.nil (hK _ _ ?_); clear hK K; refine Fin.then ?_)
    refine St.condP rfl (fun h => ?_) (fun h => ?_)
    · have h3 := ha.at (i := i) (by omega)
      have e1 : ((i : Int) + 1 - 1).toNat = i := by omega
      have e2 : ((i : Int) + 1).toNat = i + 1 := by omega
      (refine St.skip ?_; refine Fin.then ?_; refine St.seq ?_; refine St.block ?_; refine St.seq ?_)
      refine St.drawK (by with_reducible exact mixed) 10 (.p 0 (.p 1 (.p 2 (.p 4 (.p 5 (.p 6 (.p 7 (.f 3 (.f 8 (.p 9 .done)))))))))) (by kernel_rfl) (fun K hK => ?_)
      (refine Ops.move rfl rfl rfl ?_; refine Ops.move rfl rfl rfl ?_; refine Ops.idxR _ rfl rfl rfl (cls_len _) rfl (by with_reducible exact sClaims) (by omega) (by omega) rfl ?_; refine Ops.move rfl rfl rfl ?_; refine Ops.move rfl rfl rfl ?_; refine Ops.ibin (isub (by omega) (by omega)) rfl rfl rfl rfl ?_; refine Ops.idxR _ rfl rfl rfl (cls_len _) rfl (by with_reducible exact sClaims) (by omega) (by omega) rfl ?_; refine ldCl rfl rfl rfl rfl rfl (by omega) (by with_reducible exact lClaim) rfl ?_; refine ldCl rfl rfl rfl rfl rfl (by omega) (by with_reducible exact lClaim) rfl ?_)
      rw [e1, e2]
      generalize l.getD i c0 = x at h3
      generalize l.getD (i + 1) c0 = y at h3
      refine Ops.eqS (ks := clK) (clI y) (clI x) rfl rfl rfl rfl rfl (by with_reducible exact eClaim) rfl ?_
      (refine Ops.nil (hK _ _ ?_); clear hK K; refine Fin.then ?_)
      refine St.condP rfl (fun h4 => ?_) (fun h4 => ?_)
      · exfalso
        have := clI_inj.1 h4
        subst this
        rw [cmpC_self] at h3
        omega
      · (refine St.skip ?_; refine Fin.then ?_; refine St.regionK (fun K hK => ?_); refine Ops.move rfl rfl rfl ?_; refine Ops.ibin (iadd (by omega) (by omega)) rfl rfl rfl rfl ?_; refine Ops.assign rfl rfl rfl ?_; refine Ops.nil (hK _ _ ?_); clear hK K; refine Fin.thenN ?_)
        refine Fin.next (i + 1) (by omega) (by omega) (by exact Entails.of rfl ⟨rfl, by simp only [Int.natCast_add]; rfl, trivial⟩)
    · (refine St.exit ?_; refine Fin.then ?_; refine St.seq ?_; refine St.regionK (fun K hK => ?_); refine Ops.move rfl rfl rfl ?_; refine Ops.assign rfl rfl rfl ?_; refine Ops.nil (hK _ _ ?_); clear hK K; refine Fin.then ?_; refine St.ret ?_)
      refine Fin.retT rfl rfl rfl

theorem gosorted : InGo Try.prog 22 := InGo.of Try.func22 rfl (by decide)
theorem sorted_ok (l : List Cl) (hl : l.length ≤ 12) (ha : Asc (srt l)) : Ok Try.prog 22 [clsC l] (clsC (srt l)) := by
  refine Ok.enter Try.func22 rfl _ Try.ntmps22 rfl ?_
  intro S w
  (refine St.seq ?_; refine St.regionK (fun K hK => ?_); refine Ops.assign rfl rfl rfl ?_; refine Ops.nil (hK _ _ ?_); clear hK K; refine Fin.then ?_; refine St.seq ?_; refine St.regionK (fun K hK => ?_); refine Ops.move rfl rfl rfl ?_)
  refine Ops.callFr 0 goClone (Clone_ok l (by omega)) rfl rfl rfl rfl rfl rfl ?_
  (refine Ops.assign rfl rfl rfl ?_; refine Ops.nil (hK _ _ ?_); clear hK K; refine Fin.then ?_; refine St.seq ?_; refine St.regionK (fun K hK => ?_); refine Ops.move rfl rfl rfl ?_)
  refine Ops.callL goSort (Sort_ok l hl) rfl rfl rfl rfl rfl ?_
  (refine Ops.nil (hK _ _ ?_); clear hK K; refine Fin.then ?_; refine St.seq ?_; refine St.regionK (fun K hK => ?_); refine Ops.move rfl rfl rfl ?_)
  refine Ops.callT goCompact (Compact_ok (srt l) (by rw [srt_len]; omega) ha) rfl rfl rfl rfl rfl ?_
  (refine Ops.assign rfl rfl rfl ?_; refine Ops.nil (hK _ _ ?_); clear hK K; refine Fin.then ?_; refine St.ret ?_)
  refine Fin.freeze 0 _ rfl (cls_frozen _ _) noBor_sub ?_
  refine Fin.ret [_] rfl (AllRes.tmp rfl AllRes.nil) rfl rfl
end Go.Proofs.Ytkeoejfbbmdloaa
