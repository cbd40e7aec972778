/- The proof that LinearBest holds for every input, without conditions: part 6 of 6. -/
import Derived.Test.YtdhmbgogmoaofaaGreatZ5
import Derived.ProofKit
import Derived.OpenShut
import Derived.ShutString
import Derived.ChangeOld
import Derived.Below
import Derived.DataElems
import Derived.Test.YtdhmbgogmoaofaaGreatRows
namespace Go.Proofs.YtdhmbgogmoaofaaGreat
open Go.Own Go.Limbs
attribute [local irreducible] St Ops Go.Own.Fin Ok OkB OkN wpA
theorem goEqual : InGo Tryz.prog 19 := InGo.of Tryz.func19 rfl (by decide)
set_option maxHeartbeats 4000000 in
theorem Equal_refl (f : Fr) (hn : (limbs f.num).length ≤ 1000) (hd : (limbs f.den).length ≤ 1000) : Ok Tryz.prog 19 [fracC f, fracC f] (boolC true) := by
  refine Ok.enter Tryz.func19 rfl _ Tryz.ntmps19 rfl ?_
  intro S w
  (refine Qy (Qx fun K hK => ?_); refine Qt 0 rfl rfl rfl rfl rfl rfl rfl ?_; refine Qt 1 rfl rfl rfl rfl rfl rfl rfl ?_; refine Qv rfl rfl rfl ?_; refine Qj (hK _ _ (Qz (Qy (Qy ?_)))); clear hK K; refine Qx (fun K hK => ?_); refine QV rfl rfl rfl (by with_reducible first | exact fF0 | exact fF1 | exact fF2 | exact fR0 | exact fR1) rfl ?_; refine QJ rfl rfl rfl rfl rfl (by with_reducible first | exact lInt | exact lNat | exact lBool | exact lInts) rfl ?_; refine QV rfl rfl rfl (by with_reducible first | exact fF0 | exact fF1 | exact fF2 | exact fR0 | exact fR1) rfl ?_; refine QJ rfl rfl rfl rfl rfl (by with_reducible first | exact lInt | exact lNat | exact lBool | exact lInts) rfl ?_)
  refine Ops.bne rfl rfl rfl (by with_reducible exact uBool) rfl ?_
  (refine Qq rfl rfl rfl ?_)
  refine Qg 12 rfl (fun h => absurd rfl h) (fun _ => ?_)
  (refine QV rfl rfl rfl (by with_reducible first | exact fF0 | exact fF1 | exact fF2 | exact fR0 | exact fR1) rfl ?_; refine QJ rfl rfl rfl rfl rfl (by with_reducible first | exact lInt | exact lNat | exact lBool | exact lInts) rfl ?_; refine Q4 rfl rfl (by with_reducible first | exact sNat.und | exact sInts.und) (List.length_map ..) rfl ?_; refine QV rfl rfl rfl (by with_reducible first | exact fF0 | exact fF1 | exact fF2 | exact fR0 | exact fR1) rfl ?_; refine QJ rfl rfl rfl rfl rfl (by with_reducible first | exact lInt | exact lNat | exact lBool | exact lInts) rfl ?_; refine Q4 rfl rfl (by with_reducible first | exact sNat.und | exact sInts.und) (List.length_map ..) rfl ?_; refine Qw ineq rfl rfl rfl rfl ?_; refine Q6 rfl rfl rfl rfl ?_; refine Qq rfl rfl rfl ?_)
  refine Qg 21 rfl (fun h => absurd rfl h) (fun _ => ?_)
  (refine QV rfl rfl rfl (by with_reducible first | exact fF0 | exact fF1 | exact fF2 | exact fR0 | exact fR1) rfl ?_; refine QJ rfl rfl rfl rfl rfl (by with_reducible first | exact lInt | exact lNat | exact lBool | exact lInts) rfl ?_; refine Q4 rfl rfl (by with_reducible first | exact sNat.und | exact sInts.und) (List.length_map ..) rfl ?_; refine QV rfl rfl rfl (by with_reducible first | exact fF0 | exact fF1 | exact fF2 | exact fR0 | exact fR1) rfl ?_; refine QJ rfl rfl rfl rfl rfl (by with_reducible first | exact lInt | exact lNat | exact lBool | exact lInts) rfl ?_; refine Q4 rfl rfl (by with_reducible first | exact sNat.und | exact sInts.und) (List.length_map ..) rfl ?_; refine Qw ineq rfl rfl rfl rfl ?_; refine Q6 rfl rfl rfl rfl ?_; refine Qj (hK _ _ (Qz ?_)); clear hK K)
  refine Q0 rfl (fun h => absurd rfl h) (fun _ => ?_)
  (refine QU (Qz (Qy (Qy (Qx fun K hK => ?_)))); refine Qv rfl rfl rfl ?_; refine Qj (hK _ _ (Qz (Q2 ?_))); clear hK K)
  refine Ql (α := Nat) (fun k => k ≤ (limbs f.num).length)
    (fun k => [(2, .own 0), (3, .own 1), (5, .ct (intC k))]) (fun _ => [(1, .box 38 (frCs f)), (0, .box 38 (frCs f))]) (fun k => (limbs f.num).length - k) 0 (Nat.zero_le _) (by exact QZ rfl ⟨rfl, rfl, rfl, trivial⟩) ?_
  intro k hk
  dsimp only at hk ⊢
  (refine Qy (Qy (Qx fun K hK => ?_)); refine Qq rfl rfl rfl ?_; refine QV rfl rfl rfl (by with_reducible first | exact fF0 | exact fF1 | exact fF2 | exact fR0 | exact fR1) rfl ?_; refine QJ rfl rfl rfl rfl rfl (by with_reducible first | exact lInt | exact lNat | exact lBool | exact lInts) rfl ?_; refine Q4 rfl rfl (by with_reducible first | exact sNat.und | exact sInts.und) (List.length_map ..) rfl ?_; refine Qw ilss rfl rfl rfl rfl ?_; refine Qj (hK _ _ (Qz ?_)); clear hK K)
  refine Q0 rfl (fun h => ?_) (fun h => ?_)
  · (refine QU (Qz (Qy (Q2 (Qy ?_)))))
    refine Xq (by with_reducible exact mixed) 11 (.p 0 (.p 2 (.p 5 (.p 7 (.f 1 (.p 3 (.f 4 (.f 6 (.p 8 (.f 9 (.p 10 .done))))))))))) (by kernel_rfl) (fun K hK => ?_)
    (refine QV rfl rfl rfl (by with_reducible first | exact fF0 | exact fF1 | exact fF2 | exact fR0 | exact fR1) rfl ?_; refine Qq rfl rfl rfl ?_; refine QV rfl rfl rfl (by with_reducible first | exact fF0 | exact fF1 | exact fF2 | exact fR0 | exact fR1) rfl ?_; refine Qq rfl rfl rfl ?_; refine QJ rfl rfl rfl rfl rfl (by with_reducible first | exact lInt | exact lNat | exact lBool | exact lInts) rfl ?_; refine Qf rfl rfl rfl (by with_reducible first | exact sNat | exact sInts) (by omega) (ints_at (by omega) (by omega)) rfl ?_; refine Qm rfl rfl rfl (by with_reducible first | exact lInt | exact lNat | exact lBool | exact lInts) rfl ?_; refine QJ rfl rfl rfl rfl rfl (by with_reducible first | exact lInt | exact lNat | exact lBool | exact lInts) rfl ?_; refine Qf rfl rfl rfl (by with_reducible first | exact sNat | exact sInts) (by omega) (ints_at (by omega) (by omega)) rfl ?_; refine Qm rfl rfl rfl (by with_reducible first | exact lInt | exact lNat | exact lBool | exact lInts) rfl ?_; refine Qw ineq rfl rfl rfl rfl ?_; refine Qj (hK _ _ (Qz ?_)); clear hK K)
    refine Q0 rfl (fun h => absurd rfl h) (fun _ => ?_)
    (refine QU (Qz (Qx fun K hK => ?_)); refine Qq rfl rfl rfl ?_; refine Qw (iadd (by omega) (by omega)) rfl rfl rfl rfl ?_; refine Qv rfl rfl rfl ?_; refine Qj (hK _ _ (Q5 ?_)); clear hK K)
    refine Q8 (k + 1) (by omega) (by omega) (by exact QZ rfl ⟨rfl, rfl, by simp only [Int.natCast_add]; rfl, trivial⟩)
  · (refine Qe (Qz (Qy (Qy (Qx fun K hK => ?_)))); refine Qv rfl rfl rfl ?_; refine Qj (hK _ _ (Qz (Q2 ?_))); clear hK K)
    refine Ql (α := Nat) (fun k => k ≤ (limbs f.den).length)
      (fun k => [(2, .own 0), (3, .own 1), (6, .ct (intC k))]) (fun _ => [(1, .box 38 (frCs f)), (0, .box 38 (frCs f))]) (fun k => (limbs f.den).length - k) 0 (Nat.zero_le _) (by exact QZ rfl ⟨rfl, rfl, rfl, trivial⟩) ?_
    intro k hk
    dsimp only at hk ⊢
    (refine Qy (Qy (Qx fun K hK => ?_)); refine Qq rfl rfl rfl ?_; refine QV rfl rfl rfl (by with_reducible first | exact fF0 | exact fF1 | exact fF2 | exact fR0 | exact fR1) rfl ?_; refine QJ rfl rfl rfl rfl rfl (by with_reducible first | exact lInt | exact lNat | exact lBool | exact lInts) rfl ?_; refine Q4 rfl rfl (by with_reducible first | exact sNat.und | exact sInts.und) (List.length_map ..) rfl ?_; refine Qw ilss rfl rfl rfl rfl ?_; refine Qj (hK _ _ (Qz ?_)); clear hK K)
    refine Q0 rfl (fun h => ?_) (fun h => ?_)
    · (refine QU (Qz (Qy (Q2 (Qy ?_)))))
      refine Xq (by with_reducible exact mixed) 11 (.p 0 (.p 2 (.p 5 (.p 7 (.f 1 (.p 3 (.f 4 (.f 6 (.p 8 (.f 9 (.p 10 .done))))))))))) (by kernel_rfl) (fun K hK => ?_)
      (refine QV rfl rfl rfl (by with_reducible first | exact fF0 | exact fF1 | exact fF2 | exact fR0 | exact fR1) rfl ?_; refine Qq rfl rfl rfl ?_; refine QV rfl rfl rfl (by with_reducible first | exact fF0 | exact fF1 | exact fF2 | exact fR0 | exact fR1) rfl ?_; refine Qq rfl rfl rfl ?_; refine QJ rfl rfl rfl rfl rfl (by with_reducible first | exact lInt | exact lNat | exact lBool | exact lInts) rfl ?_; refine Qf rfl rfl rfl (by with_reducible first | exact sNat | exact sInts) (by omega) (ints_at (by omega) (by omega)) rfl ?_; refine Qm rfl rfl rfl (by with_reducible first | exact lInt | exact lNat | exact lBool | exact lInts) rfl ?_; refine QJ rfl rfl rfl rfl rfl (by with_reducible first | exact lInt | exact lNat | exact lBool | exact lInts) rfl ?_; refine Qf rfl rfl rfl (by with_reducible first | exact sNat | exact sInts) (by omega) (ints_at (by omega) (by omega)) rfl ?_; refine Qm rfl rfl rfl (by with_reducible first | exact lInt | exact lNat | exact lBool | exact lInts) rfl ?_; refine Qw ineq rfl rfl rfl rfl ?_; refine Qj (hK _ _ (Qz ?_)); clear hK K)
      refine Q0 rfl (fun h => absurd rfl h) (fun _ => ?_)
      (refine QU (Qz (Qx fun K hK => ?_)); refine Qq rfl rfl rfl ?_; refine Qw (iadd (by omega) (by omega)) rfl rfl rfl rfl ?_; refine Qv rfl rfl rfl ?_; refine Qj (hK _ _ (Q5 ?_)); clear hK K)
      refine Q8 (k + 1) (by omega) (by omega) (by exact QZ rfl ⟨rfl, rfl, by simp only [Int.natCast_add]; rfl, trivial⟩)
    · (refine Qe (Qz (Qy (Qx fun K hK => ?_))); refine Qv rfl rfl rfl ?_; refine Qj (hK _ _ (Qz (Q3 ?_))); clear hK K)
      refine QK [_] rfl (QQ rfl Qu) rfl rfl
end Go.Proofs.YtdhmbgogmoaofaaGreat
namespace Go.Proofs.YtdhmbgogmoaofaaGreat
open Go.Own
attribute [local irreducible] St Ops Go.Own.Fin Ok OkB OkN
theorem sBytes : SlcT Tryz.prog 22 5 1 1 (.int .u8 0) := SlcT.of Tryz.underlying22 (by kernel_rfl) rfl (by decide)
theorem lBytes : Ld1 Tryz.prog 22 := Ld1.of _ Tryz.underlying22 rfl
theorem lU8 : Ld1 Tryz.prog 5 := Ld1.of _ Tryz.underlying5 rfl
theorem uU8 : Tryz.prog.underlying 5 = some (.int .u8) := Tryz.underlying5
theorem uInt : Tryz.prog.underlying 3 = some (.int .i64) := Tryz.underlying3
theorem fC0 : fldInfo Tryz.prog 82 0 = some (0, some 1) := by kernel_rfl
theorem fC1 : fldInfo Tryz.prog 82 1 = some (1, some 1) := by kernel_rfl
theorem bCodes : bInfo Tryz.prog 82 = some (.agg #[.slice none 0 0, .int .i64 0], [(0, some 1), (1, some 1)]) := by kernel_rfl
abbrev bytesC (bs : List Int) : CT := .fr (sliceT 1 (bs.map fun b => [CT.ex (.int .u8 b)]))
abbrev codes (bs : List Int) (p : Nat) : List CT := [bytesC bs, intC p]
structure Bytes (bs : List Int) : Prop where
  lo : ∀ b ∈ bs, 0 ≤ b
  hi : ∀ b ∈ bs, b < 256
  len : bs.length ≤ 400
theorem bytes_at {bs : List Int} {j : Int} (h0 : 0 ≤ j) (h : j < (bs.length : Int)) : (bs.map fun b => [CT.ex (.int .u8 b)])[j.toNat]? = some [CT.ex (.int .u8 (bs.getD j.toNat 0))] := by
  have hl : j.toNat < bs.length := by omega
  rw [List.getElem?_map, List.getElem?_eq_getElem hl, List.getD_eq_getElem?_getD, List.getElem?_eq_getElem hl]; rfl
theorem Bytes.at {bs : List Int} (h : Bytes bs) (j : Nat) : 0 ≤ bs.getD j 0 ∧ bs.getD j 0 < 256 := by
  rw [List.getD_eq_getElem?_getD]
  cases e : bs[j]? with
  | none => simp
  | some b =>
    have := List.mem_of_getElem? e
    exact ⟨h.lo b this, h.hi b this⟩
theorem goNext : InGo Tryz.prog 16 := InGo.of Tryz.func16 rfl (by decide)
set_option maxHeartbeats 2000000 in
theorem Next_ok (bs : List Int) (p : Nat) (n : Int) (h1 : 1 ≤ n) (h2 : n ≤ 256) (hb : Bytes bs) :
    OkB Tryz.prog 16 82 (codes bs p) [intC n] (fun q : Int × Nat => 0 ≤ q.1 ∧ q.1 < n) (fun q => intC q.1) (fun q => codes bs q.2) := by
  have hlen := hb.len
  refine OkB.enter Tryz.func16 rfl _ Tryz.ntmps16 rfl ?_
  intro S w g
  (refine Qy (Qx fun K hK => ?_); refine Qv rfl rfl rfl ?_; refine Qj (hK _ _ (Qz (Qy (Qy ?_)))); clear hK K)
  refine Xq (by with_reducible exact mixed) 14 (.p 0 (.p 1 (.p 2 (.p 4 (.p 5 (.p 6 (.f 3 (.f 7 (.p 8 (.p 9 (.p 10 (.p 11 (.p 12 (.p 13 .done)))))))))))))) (by kernel_rfl) (fun K hK => ?_)
  (refine Qq rfl rfl rfl ?_; refine Q1 rfl rfl rfl rfl ?_; refine QV rfl rfl rfl (by with_reducible first | exact fC0 | exact fC1 | exact fR0 | exact fR1) rfl ?_; refine Qq rfl rfl rfl ?_; refine Q1 rfl rfl rfl rfl ?_; refine QV rfl rfl rfl (by with_reducible first | exact fC0 | exact fC1 | exact fR0 | exact fR1) rfl ?_; refine QJ rfl rfl rfl rfl rfl (by with_reducible first | exact lBytes | exact lInt | exact lInts) rfl ?_; refine QJ rfl rfl rfl rfl rfl (by with_reducible first | exact lBytes | exact lInt | exact lInts) rfl ?_; refine Q4 rfl rfl (by with_reducible exact sBytes.und) (List.length_map ..) rfl ?_; refine Qw igeq rfl rfl rfl rfl ?_; refine Qq rfl rfl rfl ?_)
  refine Qg 16 rfl (fun h => ?_) (fun h => ?_)
  · (refine Qk rfl rfl rfl ?_; refine Qk rfl rfl rfl ?_; refine Q7 rfl rfl rfl rfl ?_; refine Qj (hK _ _ (Qz (Xk rfl (Qy ?_)))); clear hK K; refine Qx (fun K hK => ?_); refine Qv rfl rfl rfl ?_; refine Qj (hK _ _ (Qz (Q3 (QW ?_)))); clear hK K)
    refine Fin.retB (0, p) [_] rfl (QQ rfl Qu) rfl rfl ⟨by show (0 : Int) ≤ 0; omega, by show (0 : Int) < n; omega⟩
  · (refine Qq rfl rfl rfl ?_; refine Qw ilss rfl rfl rfl rfl ?_; refine Q6 rfl rfl rfl rfl ?_; refine Qj (hK _ _ (Qz ?_)); clear hK K)
    refine Q0 rfl (fun h' => ?_) (fun h' => ?_)
    · exact absurd h' (by omega)
    · (refine QU (Qz (Qy ?_)))
      refine Xq (by with_reducible exact mixed) 12 (.p 0 (.p 1 (.p 2 (.p 4 (.p 5 (.p 6 (.f 3 (.f 7 (.p 8 (.f 9 (.p 10 (.p 11 .done)))))))))))) (by kernel_rfl) (fun K hK => ?_)
      (refine Qq rfl rfl rfl ?_; refine Q1 rfl rfl rfl rfl ?_; refine QV rfl rfl rfl (by with_reducible first | exact fC0 | exact fC1 | exact fR0 | exact fR1) rfl ?_; refine Qq rfl rfl rfl ?_; refine Q1 rfl rfl rfl rfl ?_; refine QV rfl rfl rfl (by with_reducible first | exact fC0 | exact fC1 | exact fR0 | exact fR1) rfl ?_; refine QJ rfl rfl rfl rfl rfl (by with_reducible first | exact lBytes | exact lInt | exact lInts) rfl ?_; refine QJ rfl rfl rfl rfl rfl (by with_reducible first | exact lBytes | exact lInt | exact lInts) rfl ?_; refine Qf rfl rfl rfl (by with_reducible exact sBytes) (by omega) (bytes_at (by omega) (by omega)) rfl ?_; refine Qm rfl rfl rfl (by with_reducible exact lU8) rfl ?_)
      have hx := hb.at p
      generalize he : bs.getD p 0 = x at hx
      refine X6 (q := x) rfl rfl (by with_reducible exact uU8) (by with_reducible exact uInt) (by rw [Int.toNat_natCast, he]; exact wrap_id (by omega) (by omega)) rfl ?_
      (refine Qv rfl rfl rfl ?_; refine Qj (hK _ _ (Qz (Qy ?_))); clear hK K; refine Qx (fun K hK => ?_); refine Qq rfl rfl rfl ?_; refine Q1 rfl rfl rfl rfl ?_; refine QV rfl rfl rfl (by with_reducible first | exact fC0 | exact fC1 | exact fR0 | exact fR1) rfl ?_; refine QJ rfl rfl rfl rfl rfl (by with_reducible first | exact lBytes | exact lInt | exact lInts) rfl ?_; refine Qw (iadd (by omega) (by omega)) rfl rfl rfl rfl ?_; refine Q1 rfl rfl rfl rfl ?_; refine QV rfl rfl rfl (by with_reducible first | exact fC0 | exact fC1 | exact fR0 | exact fR1) rfl ?_; refine Qn rfl rfl rfl rfl rfl (by with_reducible exact zInt) (by simp [Ent.cs]) ?_; refine Qj (hK _ _ (Qz (Qy (Qy ?_)))); clear hK K; refine Qx (fun K hK => ?_); refine Qq rfl rfl rfl ?_; refine Qw igtr rfl rfl rfl rfl ?_; refine Qj (hK _ _ (Qz ?_)); clear hK K)
      refine Q0 rfl (fun h' => ?_) (fun h' => ?_)
      · exact absurd h' (by omega)
      · (refine QU (Qz (Qy (Qx fun K hK => ?_))); refine Qq rfl rfl rfl ?_; refine Qq rfl rfl rfl ?_; refine Qw (irem (by omega) (by omega)) rfl rfl rfl rfl ?_; refine Qv rfl rfl rfl ?_; refine Qj (hK _ _ (Qz (Q3 ?_))); clear hK K)
        refine Fin.retB (x % n, p + 1) [_] rfl (QQ rfl Qu) rfl rfl ⟨Int.emod_nonneg _ (by omega), Int.emod_lt_of_pos _ (by omega)⟩
theorem goNew : InGo Tryz.prog 56 := InGo.of Tryz.func56 rfl (by decide)
theorem New_ok (bs : List Int) : OkN Tryz.prog 56 [bytesC bs, intC 400] 82 (codes (bs.take 400) 0) := by
  refine OkN.enter Tryz.func56 rfl _ Tryz.ntmps56 rfl ?_
  intro S w
  (refine Qy (Qx fun K hK => ?_); refine Qv rfl rfl rfl ?_; refine Qj (hK _ _ (Qz (Qy (Qy ?_)))); clear hK K; refine Qx (fun K hK => ?_); refine Qq rfl rfl rfl ?_; refine Q4 rfl rfl (by with_reducible exact sBytes.und) (List.length_map ..) rfl ?_; refine Qq rfl rfl rfl ?_; refine Qw igtr rfl rfl rfl rfl ?_; refine Qj (hK _ _ (Qz ?_)); clear hK K)
  refine Q0 rfl (fun h' => ?_) (fun h' => ?_)
  · (refine Qx (fun K hK => ?_); refine Qq rfl rfl rfl ?_; refine Qq rfl rfl rfl ?_)
    refine Ops.cutHi rfl rfl rfl (by with_reducible exact sBytes) (by omega) (by rw [List.length_map]; omega) rfl ?_
    rw [← List.map_take]
    (refine Qv rfl rfl rfl ?_; refine Qj (hK _ _ (Qz (Qy ?_))); clear hK K; refine Qx (fun K hK => ?_); refine Qq rfl rfl rfl ?_)
    refine Xz rfl (by with_reducible exact bCodes) rfl (.one rfl rfl rfl rfl .nil) rfl ?_
    (refine Qt 0 rfl rfl rfl rfl rfl rfl rfl ?_; refine Qv rfl rfl rfl ?_; refine Qj (hK _ _ (Qz (Q3 ?_))); clear hK K)
    refine Fin.retN rfl rfl rfl rfl
  · (refine QU (Qz (Qy (Qx fun K hK => ?_))); refine Qq rfl rfl rfl ?_)
    refine Xz rfl (by with_reducible exact bCodes) rfl (.one rfl rfl rfl rfl .nil) rfl ?_
    (refine Qt 0 rfl rfl rfl rfl rfl rfl rfl ?_; refine Qv rfl rfl rfl ?_; refine Qj (hK _ _ (Qz (Q3 ?_))); clear hK K)
    refine Fin.retN rfl rfl (by rw [List.take_of_length_le (by omega)]; rfl) rfl
theorem goRoll : InGo Tryz.prog 13 := InGo.of Tryz.func13 rfl (by decide)
theorem Roll_ok (bs : List Int) : OkN Tryz.prog 13 [bytesC bs] 82 (codes (bs.take 400) 0) := by
  refine OkN.enter Tryz.func13 rfl _ Tryz.ntmps13 rfl ?_
  intro S w
  (refine Qy (Qx fun K hK => ?_); refine Qv rfl rfl rfl ?_; refine Qj (hK _ _ (Qz (Qy ?_))); clear hK K; refine Qx (fun K hK => ?_); refine Qq rfl rfl rfl ?_)
  refine Ops.callN 0 goNew (New_ok bs) rfl rfl rfl rfl rfl rfl ?_
  (refine Qv rfl rfl rfl ?_; refine Qj (hK _ _ (Qz (Q3 ?_))); clear hK K)
  refine Fin.retN rfl rfl rfl rfl
theorem goPick : InGo Tryz.prog 27 := InGo.of Tryz.func27 rfl (by decide)
theorem Pick_ok (bs : List Int) (p : Nat) (xs : List Int) (h1 : 1 ≤ xs.length) (h2 : xs.length ≤ 256) (hb : Bytes bs) :
    OkB Tryz.prog 27 82 (codes bs p) [intsC xs] (fun q : Int × Nat => q.1 ∈ xs) (fun q => intC q.1) (fun q => codes bs q.2) := by
  refine OkB.enter Tryz.func27 rfl _ Tryz.ntmps27 rfl ?_
  intro S w g
  (refine Qy (Qx fun K hK => ?_); refine Qv rfl rfl rfl ?_; refine Qj (hK _ _ (Qz (Qy ?_))); clear hK K; refine Qx (fun K hK => ?_); refine Qq rfl rfl rfl ?_; refine Qq rfl rfl rfl ?_; refine Qq rfl rfl rfl ?_; refine Q4 rfl rfl (by with_reducible first | exact sNat.und | exact sInts.und) (List.length_map ..) rfl ?_)
  refine XV goNext (Next_ok bs p xs.length (by omega) (by omega) hb) rfl rfl rfl rfl rfl (fun q hq => ?_)
  obtain ⟨x, p'⟩ := q
  dsimp only at hq
  (refine Qf rfl rfl rfl (by with_reducible first | exact sNat | exact sInts) (by omega) (ints_at (by omega) (by omega)) rfl ?_; refine Qm rfl rfl rfl (by with_reducible first | exact lInt | exact lNat | exact lBool | exact lInts) rfl ?_; refine Qv rfl rfl rfl ?_; refine Qj (hK _ _ (Qz (Q3 ?_))); clear hK K)
  refine Fin.retB (xs.getD x.toNat 0, p') [_] rfl (QQ rfl Qu) rfl rfl ?_
  show xs.getD x.toNat 0 ∈ xs
  have hl : x.toNat < xs.length := by omega
  rw [List.getD_eq_getElem?_getD, List.getElem?_eq_getElem hl]
  exact List.getElem_mem hl
end Go.Proofs.YtdhmbgogmoaofaaGreat
namespace Go.Proofs.YtdhmbgogmoaofaaGreat
open Go.Own
attribute [local irreducible] St Ops Go.Own.Fin Ok OkB OkN
theorem goBool : InGo Tryz.prog 24 := InGo.of Tryz.func24 rfl (by decide)
theorem Bool_ok (bs : List Int) (p : Nat) (n : Int) (h1 : 1 ≤ n) (h2 : n ≤ 256) (hb : Bytes bs) :
    OkB Tryz.prog 24 82 (codes bs p) [intC n] (fun _ : Bool × Nat => True) (fun q => boolC q.1) (fun q => codes bs q.2) := by
  refine OkB.enter Tryz.func24 rfl _ Tryz.ntmps24 rfl ?_
  intro S w g
  (refine Qy (Qx fun K hK => ?_); refine Qv rfl rfl rfl ?_; refine Qj (hK _ _ (Qz (Qy ?_))); clear hK K; refine Qx (fun K hK => ?_); refine Qq rfl rfl rfl ?_; refine Qq rfl rfl rfl ?_)
  refine XV goNext (Next_ok bs p n h1 h2 hb) rfl rfl rfl rfl rfl (fun q hq => ?_)
  obtain ⟨x, p'⟩ := q
  dsimp only at hq
  (refine Qq rfl rfl rfl ?_; refine Qw (isub (by omega) (by omega)) rfl rfl rfl rfl ?_; refine Qw ieql rfl rfl rfl rfl ?_; refine Qv rfl rfl rfl ?_; refine Qj (hK _ _ (Qz (Q3 ?_))); clear hK K)
  refine Fin.retB (decide (x = n - 1), p') [_] rfl (QQ rfl Qu) rfl rfl trivial
end Go.Proofs.YtdhmbgogmoaofaaGreat
namespace Go.Proofs.YtdhmbgogmoaofaaGreat
open Go.Own Go.Limbs
attribute [local irreducible] St Ops Go.Own.Fin Ok OkB OkN wpA
theorem zIntsD : (Tryz.prog.info? 24).map (·.size) = some 1 := by kernel_rfl
theorem bRow : bInfo Tryz.prog 57 = some (.agg #[.slice none 0 0, .int .i64 0], [(0, some 1), (1, some 1)]) := by kernel_rfl
def rws (rs : List Rw) : List CT := (rs.map rwCs).flatten
theorem rws_len (rs : List Rw) : (rws rs).length = rs.length * 2 := by
  unfold rws
  rw [flatten_length (k := 2) (fun e he => by obtain ⟨m, _, rfl⟩ := List.mem_map.mp he; rfl)]; simp
theorem rws_snoc (rs : List Rw) (r : Rw) : rws (rs ++ [r]) = rws rs ++ rwCs r := by simp [rws]
theorem rws_frozen (e : Nat) (rs : List Rw) : (Ent.row e 2 (rws rs)).frozen (sliceT 2 (rs.map rwCs)) :=
  ⟨_, rfl, fun e he => by obtain ⟨m, _, rfl⟩ := List.mem_map.mp he; rfl, by decide, rfl⟩
structure RowIn (n : Int) (r : Rw) : Prop where
  len : (r.cs.length : Int) ≤ n
  lo : ∀ c ∈ r.cs, -3 ≤ c ∧ c ≤ 5
  b1 : -4503599627370496 ≤ r.b
  b2 : r.b ≤ 4503599627370496
structure Lp where
  n : Int
  rs : List Rw
  c : List Int
  p : Nat
structure LpIn (q : Lp) : Prop where
  n0 : 0 ≤ q.n
  n1 : q.n ≤ 4
  rl : q.rs.length ≤ 6
  rs : ∀ r ∈ q.rs, RowIn q.n r
  cl : (q.c.length : Int) ≤ q.n
  c : ∀ c ∈ q.c, -2 ≤ c ∧ c ≤ 4
theorem mem_snoc {α : Type} {P : α → Prop} {xs : List α} {x : α} (h : ∀ y ∈ xs, P y) (hx : P x) : ∀ y ∈ xs ++ [x], P y := fun y hy => by
  rcases List.mem_append.1 hy with h1 | h1
  · exact h y h1
  · rcases List.mem_singleton.1 h1 with rfl; exact hx
set_option maxHeartbeats 4000000 in
theorem Program_ok (bs : List Int) (p : Nat) (hb : Bytes bs) :
    OkB Tryz.prog 14 82 (codes bs p) [] LpIn (fun q => .fr (tupT [intC q.n, rowsC q.rs, intsC q.c])) (fun q => codes bs q.p) := by
  refine OkB.enter Tryz.func14 rfl _ Tryz.ntmps14 rfl ?_
  intro S w g
  (refine Qy (Qx fun K hK => ?_); refine Qv rfl rfl rfl ?_; refine Qv rfl rfl rfl ?_; refine Qv rfl rfl rfl ?_; refine Qj (hK _ _ (Qz (Qy ?_))); clear hK K; refine Qx (fun K hK => ?_); refine Qq rfl rfl rfl ?_)
  refine XV goNext (Next_ok bs p 5 (by decide) (by decide) hb) rfl rfl rfl rfl rfl (fun q hq => ?_)
  obtain ⟨n, p1⟩ := q
  dsimp only at hq ⊢
  (refine Qv rfl rfl rfl ?_; refine Qj (hK _ _ (Qz (Qy ?_))); clear hK K; refine Qx (fun K hK => ?_); refine Qv rfl rfl rfl ?_; refine Qj (hK _ _ (Qz (Qy (Qy ?_)))); clear hK K; refine Qx (fun K hK => ?_); refine Qq rfl rfl rfl ?_)
  refine XV goNext (Next_ok bs p1 7 (by decide) (by decide) hb) rfl rfl rfl rfl rfl (fun q hq1 => ?_)
  obtain ⟨k0, p2⟩ := q
  dsimp only at hq1 ⊢
  (refine Qv rfl rfl rfl ?_; refine Qj (hK _ _ (Qz (Q2 ?_))); clear hK K)
  refine X4 6 1 57 2 rfl rfl rfl ?_
  refine Ql (α := Int × List Rw × Nat) (fun x => 0 ≤ x.1 ∧ x.2.1.length + x.1 ≤ 6 ∧ ∀ r ∈ x.2.1, RowIn n r)
    (fun x => [(0, .own 0), (5, .ct (intC n)), (6, .own 1), (7, .ct (intC x.1))]) (fun x => [(1, .row 57 2 (rws x.2.1)), (0, .box 82 (codes bs x.2.2))]) (fun x => x.1.toNat) (k0, [], p2) ⟨by omega, by simp; omega, by simp⟩ (by exact QZ rfl ⟨rfl, rfl, rfl, rfl, trivial⟩) ?_
  rintro ⟨k, rs, p3⟩ ⟨hk0, hkl, hrs⟩
  dsimp only at hk0 hkl hrs ⊢
  (refine Qy (Qy (Qx fun K hK => ?_)); refine Qq rfl rfl rfl ?_; refine Qw igtr rfl rfl rfl rfl ?_; refine Qj (hK _ _ (Qz ?_)); clear hK K)
  refine Q0 rfl (fun hk => ?_) (fun hk => ?_)
  · (refine QU (Qz (Qy (Q2 (Qy (Qx fun K hK => ?_))))); refine Qq rfl rfl rfl ?_)
    refine XV goNext (Next_ok bs p3 30 (by decide) (by decide) hb) rfl rfl rfl rfl rfl (fun q hq2 => ?_)
    obtain ⟨b0, p4⟩ := q
    dsimp only at hq2 ⊢
    (refine Qw (isub (by omega) (by omega)) rfl rfl rfl rfl ?_)
    refine Xz rfl (by with_reducible exact bRow) rfl (.one rfl rfl rfl rfl .nil) rfl ?_
    (refine Qd 2 rfl rfl (by with_reducible exact zvRow) rfl rfl rfl ?_; refine Qa 2 rfl rfl rfl rfl rfl (by with_reducible exact szRow) rfl rfl ?_; refine Qj (hK _ _ (Qz (Qy (Qy ?_)))); clear hK K; refine Qx (fun K hK => ?_); refine Qq rfl rfl rfl ?_; refine Qq rfl rfl rfl ?_; refine Qw (iadd (by omega) (by omega)) rfl rfl rfl rfl ?_)
    refine XV goNext (Next_ok bs p4 (n + 1) (by omega) (by omega) hb) rfl rfl rfl rfl rfl (fun q hq3 => ?_)
    obtain ⟨i0, p5⟩ := q
    dsimp only at hq3 ⊢
    (refine Qv rfl rfl rfl ?_; refine Qj (hK _ _ (Qz (Q2 ?_))); clear hK K)
    refine St.nilX 3 3 1 rfl rfl ?_
    refine Ql (α := Int × List Int × Value × Nat) (fun x => 0 ≤ x.1 ∧ x.2.1.length + x.1 ≤ n ∧ (∀ c ∈ x.2.1, -3 ≤ c ∧ c ≤ 5) ∧ x.2.2.1.oneCell' = true)
      (fun x => [(0, .own 0), (5, .ct (intC n)), (6, .own 1), (7, .ct (intC k)), (8, .own 2), (9, .ct (intC x.1))])
      (fun x => [(3, .rowx x.2.2.1 3 1 (ints x.2.1)), (2, .box 57 [.ex x.2.2.1, intC (b0 - 8)]), (1, .row 57 2 (rws rs)), (0, .box 82 (codes bs x.2.2.2))]) (fun x => x.1.toNat) (i0, [], .slice none 0 0, p5) ⟨by omega, by simp; omega, by simp, rfl⟩ (by exact QZ rfl ⟨rfl, rfl, rfl, rfl, rfl, rfl, trivial⟩) ?_
    · rintro ⟨i, cs, v, p6⟩ ⟨hi0, hil, hcs, hv⟩
      dsimp only at hi0 hil hcs hv ⊢
      (refine Qy (Qy (Qx fun K hK => ?_)); refine Qq rfl rfl rfl ?_; refine Qw igtr rfl rfl rfl rfl ?_; refine Qj (hK _ _ (Qz ?_)); clear hK K)
      refine Q0 rfl (fun hi => ?_) (fun hi => ?_)
      · (refine QU (Qz (Qy (Q2 ?_))))
        refine St.drawA (by with_reducible exact mixed) (.p 0 (.p 2 (.fk 1 (.lin (.a 3 (.p 4 (.a 5 (.a 6 (.p 7 (.a 8 .done))))))) 3 (.p 4 (.fk 1 (.lin (.a 5 (.a 6 (.p 7 (.a 8 .done))))) 5 (.lin (.a 1 (.a 6 (.p 7 (.a 8 .done)))))))))) (by kernel_rfl) (fun K hK => ?_)
        refine Fin.p ?_
        (refine QV rfl rfl rfl (by with_reducible first | exact fC0 | exact fC1 | exact fR0 | exact fR1) rfl ?_)
        refine Qj (Fin.p ?_)
        (refine Qq rfl rfl rfl ?_)
        refine Qj (Fin.fk ?_ ?_)
        · (refine QJ rfl rfl rfl rfl rfl (by with_reducible first | exact lBytes | exact lInt | exact lInts) rfl ?_)
          refine Qj (Fin.lin ?_)
          refine XV goNext (Next_ok bs p6 9 (by decide) (by decide) hb) rfl rfl rfl rfl rfl (fun q hq4 => ?_)
          obtain ⟨c, p7⟩ := q
          dsimp only at hq4 ⊢
          (refine Qw (isub (by omega) (by omega)) rfl rfl rfl rfl ?_)
          refine Xx rfl rfl (by with_reducible exact sInts) rfl rfl rfl ?_
          skip
          refine XQ 33 3 rfl rfl ?_
          refine Qh cs.length (ints (cs ++ [c - 3])) rfl rfl rfl rfl (by with_reducible exact sInts) (by simp [ints]) rfl (by omega) (by omega) (by simp [ints]) rfl ?_
          (refine QV rfl rfl rfl (by with_reducible first | exact fC0 | exact fC1 | exact fR0 | exact fR1) rfl ?_)
          refine Ops.name 38 3 rfl rfl (fun v' hv' => ?_)
          refine Qn (c := .ex v') rfl rfl rfl rfl hv' (by with_reducible exact zIntsD) (by simp [Ent.cs]) ?_
          (refine Qj (hK _ _ (Qz ?_)); clear hK K; refine Qx (fun K hK => ?_); refine Qq rfl rfl rfl ?_; refine Qw (isub (by omega) (by omega)) rfl rfl rfl rfl ?_; refine Qv rfl rfl rfl ?_; refine Qj (hK _ _ (Q5 ?_)); clear hK K)
          refine Q8 (i - 1, cs ++ [c - 3], v', p7) (by dsimp only; omega) ⟨by dsimp only; omega, by simp; omega, mem_snoc hcs (by omega), hv'⟩ (by exact QZ rfl ⟨rfl, rfl, rfl, rfl, rfl, rfl, trivial⟩)
        · refine XV goNext (Next_ok bs p6 9 (by decide) (by decide) hb) rfl rfl rfl rfl rfl (fun q hq4 => ?_)
          obtain ⟨c, p7⟩ := q
          dsimp only at hq4 ⊢
          skip
          refine Qj (Fin.p ?_)
          (refine Qw (isub (by omega) (by omega)) rfl rfl rfl rfl ?_)
          refine Qj (Fin.fk ?_ ?_)
          · (refine QJ rfl rfl rfl rfl rfl (by with_reducible first | exact lBytes | exact lInt | exact lInts) rfl ?_)
            refine Qj (Fin.lin ?_)
            refine Xx rfl rfl (by with_reducible exact sInts) rfl rfl rfl ?_
            skip
            refine XQ 33 3 rfl rfl ?_
            refine Qh cs.length (ints (cs ++ [c - 3])) rfl rfl rfl rfl (by with_reducible exact sInts) (by simp [ints]) rfl (by omega) (by omega) (by simp [ints]) rfl ?_
            (refine QV rfl rfl rfl (by with_reducible first | exact fC0 | exact fC1 | exact fR0 | exact fR1) rfl ?_)
            refine Ops.name 38 3 rfl rfl (fun v' hv' => ?_)
            refine Qn (c := .ex v') rfl rfl rfl rfl hv' (by with_reducible exact zIntsD) (by simp [Ent.cs]) ?_
            (refine Qj (hK _ _ (Qz ?_)); clear hK K; refine Qx (fun K hK => ?_); refine Qq rfl rfl rfl ?_; refine Qw (isub (by omega) (by omega)) rfl rfl rfl rfl ?_; refine Qv rfl rfl rfl ?_; refine Qj (hK _ _ (Q5 ?_)); clear hK K)
            refine Q8 (i - 1, cs ++ [c - 3], v', p7) (by dsimp only; omega) ⟨by dsimp only; omega, by simp; omega, mem_snoc hcs (by omega), hv'⟩ (by exact QZ rfl ⟨rfl, rfl, rfl, rfl, rfl, rfl, trivial⟩)
          · refine Xx rfl rfl (by with_reducible exact sInts) rfl rfl rfl ?_
            refine Qj (Fin.lin ?_)
            (refine QJ rfl rfl rfl rfl rfl (by with_reducible first | exact lBytes | exact lInt | exact lInts) rfl ?_)
            refine XQ 33 3 rfl rfl ?_
            refine Qh cs.length (ints (cs ++ [c - 3])) rfl rfl rfl rfl (by with_reducible exact sInts) (by simp [ints]) rfl (by omega) (by omega) (by simp [ints]) rfl ?_
            (refine QV rfl rfl rfl (by with_reducible first | exact fC0 | exact fC1 | exact fR0 | exact fR1) rfl ?_)
            refine Ops.name 38 3 rfl rfl (fun v' hv' => ?_)
            refine Qn (c := .ex v') rfl rfl rfl rfl hv' (by with_reducible exact zIntsD) (by simp [Ent.cs]) ?_
            (refine Qj (hK _ _ (Qz ?_)); clear hK K; refine Qx (fun K hK => ?_); refine Qq rfl rfl rfl ?_; refine Qw (isub (by omega) (by omega)) rfl rfl rfl rfl ?_; refine Qv rfl rfl rfl ?_; refine Qj (hK _ _ (Q5 ?_)); clear hK K)
            refine Q8 (i - 1, cs ++ [c - 3], v', p7) (by dsimp only; omega) ⟨by dsimp only; omega, by simp; omega, mem_snoc hcs (by omega), hv'⟩ (by exact QZ rfl ⟨rfl, rfl, rfl, rfl, rfl, rfl, trivial⟩)
      · refine St.frzX 3 2 0 _ rfl rfl rfl (ints_frozen _ _) (okFix_lent rfl) ?_
        (refine Qe (Qz (Qy (Qy (Qx fun K hK => ?_)))); refine Qq rfl rfl rfl ?_)
        refine XV goBool (Bool_ok bs p6 16 (by decide) (by decide) hb) rfl rfl rfl rfl rfl (fun q _ => ?_)
        obtain ⟨b, p7⟩ := q
        dsimp only
        (refine Qj (hK _ _ (Qz ?_)); clear hK K)
        refine X0 rfl (fun _ => ?_) (fun _ => ?_)
        · (refine Qx (fun K hK => ?_); refine Qq rfl rfl rfl ?_)
          refine Ops.lit (m := 2) (cs := [intC (-4503599627370496), intC 4503599627370496]) rfl rfl (by with_reducible exact sInts) (.one rfl rfl rfl rfl (.one rfl rfl rfl rfl .nil)) (by decide) rfl ?_
          refine XV goPick (Pick_ok bs p7 [-4503599627370496, 4503599627370496] (by decide) (by decide) hb) rfl rfl rfl rfl rfl (fun q hq5 => ?_)
          obtain ⟨b1, p8⟩ := q
          have hb1 : b1 = -4503599627370496 ∨ b1 = 4503599627370496 := by simpa using hq5
          dsimp only
          (refine QV rfl rfl rfl (by with_reducible first | exact fC0 | exact fC1 | exact fR0 | exact fR1) rfl ?_; refine Qn rfl rfl rfl rfl rfl (by with_reducible exact zInt) (by simp [Ent.cs]) ?_; refine Qj (hK _ _ (Qz ?_)); clear hK K; refine Qx (fun K hK => ?_); refine Qq rfl rfl rfl ?_; refine Qp (n := 2) rfl rfl rfl rfl rfl (by with_reducible exact lRow) rfl ?_)
          refine Ops.litN (n := 2) rfl rfl (by with_reducible exact sRows) rfl rfl (by decide) rfl ?_
          refine Qh rs.length (rws (rs ++ [⟨cs, b1⟩])) rfl rfl rfl rfl (by with_reducible exact sRows) (rws_len rs) rfl (by omega) (by omega) (rws_snoc rs ⟨cs, b1⟩) rfl ?_
          (refine Qv rfl rfl rfl ?_; refine Qj (hK _ _ (Qz ?_)); clear hK K; refine Qx (fun K hK => ?_); refine Qq rfl rfl rfl ?_; refine Qw (isub (by omega) (by omega)) rfl rfl rfl rfl ?_; refine Qv rfl rfl rfl ?_; refine Qj (hK _ _ (Q5 ?_)); clear hK K)
          refine XY 2 ?_
          refine Q8 (k - 1, rs ++ [⟨cs, b1⟩], p8) (by dsimp only; omega) ⟨by dsimp only; omega, by simp; omega, mem_snoc hrs ⟨by dsimp only; omega, hcs, by dsimp only; omega, by dsimp only; omega⟩⟩ (by exact QZ rfl ⟨rfl, rfl, rfl, rfl, trivial⟩)
        · (refine QU (Qz (Qx fun K hK => ?_)); refine Qq rfl rfl rfl ?_; refine Qp (n := 2) rfl rfl rfl rfl rfl (by with_reducible exact lRow) rfl ?_)
          refine Ops.litN (n := 2) rfl rfl (by with_reducible exact sRows) rfl rfl (by decide) rfl ?_
          refine Qh rs.length (rws (rs ++ [⟨cs, b0 - 8⟩])) rfl rfl rfl rfl (by with_reducible exact sRows) (rws_len rs) rfl (by omega) (by omega) (rws_snoc rs ⟨cs, b0 - 8⟩) rfl ?_
          (refine Qv rfl rfl rfl ?_; refine Qj (hK _ _ (Qz ?_)); clear hK K; refine Qx (fun K hK => ?_); refine Qq rfl rfl rfl ?_; refine Qw (isub (by omega) (by omega)) rfl rfl rfl rfl ?_; refine Qv rfl rfl rfl ?_; refine Qj (hK _ _ (Q5 ?_)); clear hK K)
          refine XY 2 ?_
          refine Q8 (k - 1, rs ++ [⟨cs, b0 - 8⟩], p7) (by dsimp only; omega) ⟨by dsimp only; omega, by simp; omega, mem_snoc hrs ⟨by dsimp only; omega, hcs, by dsimp only; omega, by dsimp only; omega⟩⟩ (by exact QZ rfl ⟨rfl, rfl, rfl, rfl, trivial⟩)
  · (refine Qe (Qz (Qy (Qx fun K hK => ?_))); refine Qv rfl rfl rfl ?_; refine Qj (hK _ _ (Qz (Qy (Qy ?_)))); clear hK K; refine Qx (fun K hK => ?_); refine Qq rfl rfl rfl ?_; refine Qq rfl rfl rfl ?_; refine Qw (iadd (by omega) (by omega)) rfl rfl rfl rfl ?_)
    refine XV goNext (Next_ok bs p3 (n + 1) (by omega) (by omega) hb) rfl rfl rfl rfl rfl (fun q hq3 => ?_)
    obtain ⟨i0, p5⟩ := q
    dsimp only at hq3 ⊢
    (refine Qv rfl rfl rfl ?_; refine Qj (hK _ _ (Qz (Q2 ?_))); clear hK K)
    refine X4 10 2 3 1 rfl rfl rfl ?_
    refine Ql (α := Int × List Int × Nat) (fun x => 0 ≤ x.1 ∧ x.2.1.length + x.1 ≤ n ∧ (∀ c ∈ x.2.1, -2 ≤ c ∧ c ≤ 4))
      (fun x => [(0, .own 0), (5, .ct (intC n)), (6, .own 1), (10, .own 2), (11, .ct (intC x.1))])
      (fun x => [(2, .row 3 1 (ints x.2.1)), (1, .row 57 2 (rws rs)), (0, .box 82 (codes bs x.2.2))]) (fun x => x.1.toNat) (i0, [], p5) ⟨by omega, by simp; omega, by simp⟩ (by exact QZ rfl ⟨rfl, rfl, rfl, rfl, rfl, trivial⟩) ?_
    rintro ⟨i, cs, p6⟩ ⟨hi0, hil, hcs⟩
    dsimp only at hi0 hil hcs ⊢
    (refine Qy (Qy (Qx fun K hK => ?_)); refine Qq rfl rfl rfl ?_; refine Qw igtr rfl rfl rfl rfl ?_; refine Qj (hK _ _ (Qz ?_)); clear hK K)
    refine Q0 rfl (fun hi => ?_) (fun hi => ?_)
    · (refine QU (Qz (Qy (Q2 (Qx fun K hK => ?_)))); refine Qq rfl rfl rfl ?_; refine Qq rfl rfl rfl ?_)
      refine XV goNext (Next_ok bs p6 7 (by decide) (by decide) hb) rfl rfl rfl rfl rfl (fun q hq4 => ?_)
      obtain ⟨c, p7⟩ := q
      dsimp only at hq4 ⊢
      (refine Qw (isub (by omega) (by omega)) rfl rfl rfl rfl ?_)
      refine Xx rfl rfl (by with_reducible exact sInts) rfl rfl rfl ?_
      refine Qh cs.length (ints (cs ++ [c - 2])) rfl rfl rfl rfl (by with_reducible exact sInts) (by simp [ints]) rfl (by omega) (by omega) (by simp [ints]) rfl ?_
      (refine Qv rfl rfl rfl ?_; refine Qj (hK _ _ (Qz ?_)); clear hK K; refine Qx (fun K hK => ?_); refine Qq rfl rfl rfl ?_; refine Qw (isub (by omega) (by omega)) rfl rfl rfl rfl ?_; refine Qv rfl rfl rfl ?_; refine Qj (hK _ _ (Q5 ?_)); clear hK K)
      refine Q8 (i - 1, cs ++ [c - 2], p7) (by dsimp only; omega) ⟨by dsimp only; omega, by simp; omega, mem_snoc hcs (by omega)⟩ (by exact QZ rfl ⟨rfl, rfl, rfl, rfl, rfl, trivial⟩)
    · refine St.frz 1 _ rfl (rws_frozen _ _) (okFix_lent rfl) ?_
      refine St.frz 2 _ rfl (ints_frozen _ _) (okFix_lent rfl) ?_
      (refine Qe (Qz (Qy (Qx fun K hK => ?_))); refine Qq rfl rfl rfl ?_; refine Qq rfl rfl rfl ?_; refine Qq rfl rfl rfl ?_; refine Qv rfl rfl rfl ?_; refine Qv rfl rfl rfl ?_; refine Qv rfl rfl rfl ?_; refine Qj (hK _ _ (Qz (Q3 ?_))); clear hK K)
      refine Fin.retB ⟨n, rs, cs, p6⟩ [_, _, _] rfl (QQ rfl (QQ rfl (QQ rfl Qu))) rfl rfl ⟨hq.1, by show n ≤ 4; omega, by show rs.length ≤ 6; omega, hrs, by show (cs.length : Int) ≤ n; omega, hcs⟩
theorem goProgram : InGo Tryz.prog 14 := InGo.of Tryz.func14 rfl (by decide)
end Go.Proofs.YtdhmbgogmoaofaaGreat
namespace Go.Proofs.YtdhmbgogmoaofaaGreat
open Go.Own Go.Limbs
attribute [local irreducible] St Ops Go.Own.Fin Ok OkB OkN OkM wpA
theorem gowhole34 : InGo Tryz.prog 37 := InGo.of Tryz.func37 rfl (by decide)
set_option maxHeartbeats 2000000 in
theorem whole34_ok (n : Int) (h1 : -9223372036854775808 ≤ n) (h2 : n ≤ 9223372036854775807) : Ok Tryz.prog 37 [intC n] (ratC (n : Rat)) := by
  have hF := rFrom_ok n 1 h1 h2 (by decide) (by decide) (by decide)
  rw [divInt_one] at hF
  refine Ok.enter Tryz.func37 rfl _ Tryz.ntmps37 rfl ?_
  intro S w
  (refine Qy (Qx fun K hK => ?_); refine Qd 0 rfl rfl (by with_reducible first | exact zvFrac) rfl rfl rfl ?_; refine Qj (hK _ _ (Qz (Qy ?_))); clear hK K; refine Qx (fun K hK => ?_); refine Qq rfl rfl rfl ?_)
  refine QX gorFrom hF rfl rfl rfl rfl ?_
  (refine Qq rfl rfl rfl ?_; refine QY rfl rfl rfl rfl ?_; refine QY rfl rfl rfl rfl ?_; refine Qd 1 rfl rfl (by with_reducible first | exact zvFrac) rfl rfl rfl ?_; refine Qa 3 rfl rfl rfl rfl rfl (by with_reducible exact szFrac) rfl rfl ?_; refine Qv rfl rfl rfl ?_; refine Qj (hK _ _ (Qz (Qy ?_))); clear hK K; refine Qx (fun K hK => ?_); refine Qp (n := 3) rfl rfl rfl rfl rfl (by with_reducible exact lFrac) rfl ?_; refine Qa 3 rfl rfl rfl rfl rfl (by with_reducible exact szFrac) rfl rfl ?_; refine Qj (hK _ _ (Qz (Q3 ?_))); clear hK K)
  refine QK [_] rfl (Qb (n := 3) rfl rfl (by with_reducible exact lFrac) rfl Qu) rfl rfl
def aw1 : List Rw := [⟨[1, 1], 4⟩, ⟨[1], 3⟩]
def aw2 : List Rw := [⟨[-1], -5⟩, ⟨[1], 3⟩]
def awX : List Fr := [ofQ (3 : Int), ofQ (1 : Int)]
theorem aw_lp1 : LpOk 2 aw1 [2, 1] := by
  obtain ⟨N, h, hL⟩ := lp_of (n := 2) (rs := aw1) (c := [2, 1]) (by decide) (by decide)
  rwa [show N = 2 by omega] at hL
theorem aw_lp2 : LpOk 1 aw2 [] := by
  obtain ⟨N, h, hL⟩ := lp_of (n := 1) (rs := aw2) (c := []) (by decide) (by decide)
  rwa [show N = 1 by omega] at hL
theorem aw_F1 : Go.Proofs.YtdhmbgogmoaofaaGreat.Feas 2 aw1 1 (fun j => if j = 0 then 3 else 1) := ⟨by decide, by decide, by decide⟩
theorem aw_D1 : Go.Proofs.YtdhmbgogmoaofaaGreat.Dual 2 aw1 [2, 1] 1 (fun _ => 1) := ⟨by decide, by decide, by decide⟩
theorem aw_R2 : Go.Proofs.YtdhmbgogmoaofaaGreat.Refu 1 aw2 1 (fun _ => 1) := ⟨by decide, by decide, by decide, by decide⟩
theorem aw_Max : Ok Tryz.prog 26 [intC 2, rowsC aw1, intsC [2, 1]] (.fr (tupT [fracC (ofQ (7 : Int)), boolC true, intC 0])) := by
  obtain ⟨T, E, F, s, R, hs⟩ := lp_sol aw_lp1
  have h := Maximum_of 2 aw1 [2, 1] _ 0 (Solve_ok 2 aw1 [2, 1] aw_lp1 (by decide) (by decide) R)
  obtain ⟨h1, h2⟩ := sol_opt hs aw_F1 aw_D1 (v := 7) (by decide) (by decide)
  rw [h2, h1] at h
  exact h
theorem aw_Fea : Ok Tryz.prog 34 [intC 1, rowsC aw2] (.fr (tupT [boolC false, intC 0])) := by
  obtain ⟨T, E, F, s, R, hs⟩ := lp_sol aw_lp2
  have h := Feasible_of 1 aw2 _ 0 (Solve_ok 1 aw2 [] aw_lp2 (by decide) (by decide) R)
  have h1 := sol_emp hs aw_R2
  rw [h1] at h
  exact h
theorem aw_f6 : ∀ f ∈ awX, F6 f := by
  intro f hf
  rcases List.mem_cons.1 hf with h | h
  · subst h; exact ⟨by decide +kernel, by decide +kernel, by decide +kernel, by decide +kernel⟩
  · rw [List.mem_singleton.1 h]; exact ⟨by decide +kernel, by decide +kernel, by decide +kernel, by decide +kernel⟩
theorem aw_Sat : Ok Tryz.prog 20 [intC 2, rowsC aw1, fracsC awX] (boolC true) := by
  have h := Satisfies_gen 2 aw1 awX (by decide) (by decide) (by decide) (fun f hf => (aw_f6 f hf).vf) (fun _ _ => sfit6 2 aw1 awX (by decide) (by decide) aw_f6)
  rwa [show satB 2 aw1 awX = true by decide +kernel] at h
theorem goawake34 : InGo Tryz.prog 11 := InGo.of Tryz.func11 rfl (by decide)
set_option maxHeartbeats 4000000 in
theorem awake34_ok : Ok Tryz.prog 11 [] (boolC true) := by
  have hM := aw_Max
  have hF := aw_Fea
  have hS := aw_Sat
  have hV := LValid_ok 2 aw1 (by decide) (by decide)
  rw [show validR 2 aw1 = true by decide] at hV
  have hE := Equal_refl (ofQ (7 : Int)) (by decide +kernel) (by decide +kernel)
  have w1 := whole34_ok 1 (by decide) (by decide)
  have w3 := whole34_ok 3 (by decide) (by decide)
  have w7 : Ok Tryz.prog 37 [intC 7] (fracC (ofQ (7 : Int))) := whole34_ok 7 (by decide) (by decide)
  generalize h7 : ofQ (7 : Int) = q7 at hM hE w7
  refine Ok.enter Tryz.func11 rfl _ Tryz.ntmps11 rfl ?_
  intro S w
  (refine Qy (Qx fun K hK => ?_); refine Qv rfl rfl rfl ?_; refine Qj (hK _ _ (Qz (Qy ?_))); clear hK K; refine Qx (fun K hK => ?_))
  refine Ops.lit (m := 2) (cs := [intC 1, intC 1]) rfl rfl (by with_reducible exact sInts) (.one rfl rfl rfl rfl (.one rfl rfl rfl rfl .nil)) (by decide) rfl ?_
  refine Xz rfl (by with_reducible exact bRow) rfl (.one rfl rfl rfl rfl (.one rfl rfl rfl rfl .nil)) rfl ?_
  refine Xx rfl rfl (by with_reducible exact sInts) rfl rfl rfl ?_
  refine Xz rfl (by with_reducible exact bRow) rfl (.one rfl rfl rfl rfl (.one rfl rfl rfl rfl .nil)) rfl ?_
  refine Ops.lit (m := 2) (n := 2) (cs := rwCs ⟨[1, 1], 4⟩ ++ rwCs ⟨[1], 3⟩) rfl rfl (by with_reducible exact sRows) (.agg rfl rfl rfl rfl (.agg rfl rfl rfl rfl .nil)) (by decide) rfl ?_
  refine Qv rfl rfl rfl ?_
  refine Qj (hK _ _ ?_)
  clear hK K
  refine Fin.keep [(1, .ct (rowsC aw1))] ⟨rfl, trivial⟩ ?_
  (refine Qz (Qy (Qx fun K hK => ?_)); refine Qq rfl rfl rfl ?_)
  refine Ops.lit (m := 2) (cs := [intC 2, intC 1]) rfl rfl (by with_reducible exact sInts) (.one rfl rfl rfl rfl (.one rfl rfl rfl rfl .nil)) (by decide) rfl ?_
  refine QX goMaximum hM rfl rfl rfl rfl ?_
  (refine Qq rfl rfl rfl ?_; refine QY rfl rfl rfl rfl ?_; refine QY rfl rfl rfl rfl ?_; refine QY rfl rfl rfl rfl ?_; refine Qd 0 rfl rfl (by with_reducible first | exact zvFrac) rfl rfl rfl ?_; refine Qa 3 rfl rfl rfl rfl rfl (by with_reducible exact szFrac) rfl rfl ?_; refine Qv rfl rfl rfl ?_; refine Qv rfl rfl rfl ?_; refine Qj (hK _ _ (Qz (Qy ?_))); clear hK K; refine Qx (fun K hK => ?_))
  refine Xx rfl rfl (by with_reducible exact sInts) rfl rfl rfl ?_
  refine Xz rfl (by with_reducible exact bRow) rfl (.one rfl rfl rfl rfl (.one rfl rfl rfl rfl .nil)) rfl ?_
  refine Xx rfl rfl (by with_reducible exact sInts) rfl rfl rfl ?_
  refine Xz rfl (by with_reducible exact bRow) rfl (.one rfl rfl rfl rfl (.one rfl rfl rfl rfl .nil)) rfl ?_
  refine Ops.lit (m := 2) (n := 2) (cs := rwCs ⟨[-1], -5⟩ ++ rwCs ⟨[1], 3⟩) rfl rfl (by with_reducible exact sRows) (.agg rfl rfl rfl rfl (.agg rfl rfl rfl rfl .nil)) (by decide) rfl ?_
  refine QX goFeasible hF rfl rfl rfl rfl ?_
  (refine Qq rfl rfl rfl ?_; refine QY rfl rfl rfl rfl ?_; refine QY rfl rfl rfl rfl ?_; refine Qv rfl rfl rfl ?_; refine Qv rfl rfl rfl ?_; refine Qj (hK _ _ (Qz (Qy ?_))); clear hK K)
  refine Xq (by with_reducible exact mixed) 30 (.p 0 (.p 1 (.p 2 (.p 3 (.p 4 (.p 5 (.f 6 (.m 7 (.m 8 (.p 9 (.p 10 (.p 11 (.p 12 (.p 13 (.p 14 (.p 15 (.p 16 (.p 17 (.p 18 (.p 19 (.m 20 (.m 21 (.m 22 (.m 23 (.p 24 (.p 25 (.p 26 (.m 27 (.p 28 (.p 29 .done)))))))))))))))))))))))))))))) (by kernel_rfl) (fun K hK => ?_)
  (refine Qq rfl rfl rfl ?_; refine Qq rfl rfl rfl ?_; refine Qq rfl rfl rfl ?_; refine Qw ieql rfl rfl rfl rfl ?_; refine Q7 rfl rfl rfl rfl ?_; refine Qq rfl rfl rfl ?_; refine Qp (n := 3) rfl rfl rfl rfl rfl (by with_reducible exact lFrac) rfl ?_)
  refine QX gowhole34 w7 rfl rfl rfl rfl ?_
  skip
  refine QX goEqual hE rfl rfl rfl rfl ?_
  (refine Q7 rfl rfl rfl rfl ?_; refine Qq rfl rfl rfl ?_; refine Qq rfl rfl rfl ?_; refine Qr rfl rfl rfl ?_; refine Q7 rfl rfl rfl rfl ?_; refine Qq rfl rfl rfl ?_; refine Qq rfl rfl rfl ?_; refine Qw ieql rfl rfl rfl rfl ?_; refine Q7 rfl rfl rfl rfl ?_; refine Qq rfl rfl rfl ?_; refine Qq rfl rfl rfl ?_)
  refine QX gowhole34 w3 rfl rfl rfl rfl ?_
  refine QX gowhole34 w1 rfl rfl rfl rfl ?_
  refine Ops.lit (m := 2) (n := 3) (cs := frCs (ofQ (3 : Int)) ++ frCs (ofQ (1 : Int))) rfl rfl (by with_reducible exact sFracs) (.agg rfl rfl rfl rfl (.agg rfl rfl rfl rfl .nil)) (by decide) rfl ?_
  refine QX goSatisfies hS rfl rfl rfl rfl ?_
  (refine Q7 rfl rfl rfl rfl ?_; refine Qq rfl rfl rfl ?_; refine Qq rfl rfl rfl ?_)
  refine QX goLValid hV rfl rfl rfl rfl ?_
  (refine Q7 rfl rfl rfl rfl ?_; refine Qv rfl rfl rfl ?_; refine Qj (hK _ _ (Qz (Q3 ?_))); clear hK K)
  refine QK [_] rfl (QQ rfl Qu) rfl rfl
end Go.Proofs.YtdhmbgogmoaofaaGreat
namespace Go.Proofs.YtdhmbgogmoaofaaGreat
open Go.Own Go.Limbs
attribute [local irreducible] St Ops Go.Own.Fin Ok OkB OkN OkM wpA
theorem okc_in {n : Int} {c : List Int} (cl : (c.length : Int) ≤ n) (h : ∀ y ∈ c, -1000 ≤ y ∧ y ≤ 1000) : okCoeffs n c = true := by
  have hc : c.any badC = false := by
    rw [List.any_eq_false]
    intro y hy
    have := h y hy
    unfold badC
    simp only [Bool.or_eq_true, decide_eq_true_eq]
    omega
  unfold okCoeffs
  rw [hc, decide_eq_true cl]
  decide
theorem valid_dice {n : Int} {rs : List Rw} (h0 : 0 ≤ n) (h1 : n ≤ 4) (hl : rs.length ≤ 64) (h : ∀ r ∈ rs, RowIn n r) : validR n rs = true := by
  unfold validR
  simp only [Bool.and_eq_true, decide_eq_true_eq, Bool.not_eq_true']
  refine ⟨⟨⟨h0, by omega⟩, by omega⟩, ?_⟩
  rw [List.any_eq_false]
  intro r hr
  obtain ⟨a1, a2, a3, a4⟩ := h r hr
  unfold badR
  rw [okc_in a1 (fun y hy => by have := a2 y hy; omega), decide_eq_false (show ¬ r.b < -4503599627370496 by omega), decide_eq_false (show ¬ 4503599627370496 < r.b by omega)]
  decide
theorem solve_ex {n : Int} {rs : List Rw} {c : List Int} (hv : validR n rs = true) (hc : okCoeffs n c = true) : ∃ O, Sol n.toNat rs c O ∧ Ok Tryz.prog 22 [intC n, rowsC rs, intsC c] (.fr (tupT [ocC O, intC 0])) := by
  obtain ⟨N, rfl, hL⟩ := lp_of hv hc
  obtain ⟨T, E, F, s, R, hs⟩ := lp_sol hL
  rw [Int.toNat_natCast]
  exact ⟨_, hs, Solve_ok N rs c hL hv hc R⟩
theorem Kt6 {m : Nat} (h : m ≤ 6) : Kt m < 1073741824 ^ 9 := by
  have : m = 0 ∨ m = 1 ∨ m = 2 ∨ m = 3 ∨ m = 4 ∨ m = 5 ∨ m = 6 := by omega
  rcases this with rfl | rfl | rfl | rfl | rfl | rfl | rfl <;> decide +kernel
theorem sol_sz {n : Nat} {rs : List Rw} {c : List Int} {O : Oc} (h : Sol n rs c O) (hl : rs.length ≤ 6) (hk : O.kind = 1) : ∃ q : Rat, O.value = ofQ q ∧ (limbs (ofQ q).num).length ≤ 9 ∧ (limbs (ofQ q).den).length ≤ 9 := by
  cases h with
  | opt D X Y val hX hv hY hw b1 b2 b3 b4 =>
    have hD := hX.den
    obtain ⟨h1, h2⟩ := mk_le val D.natAbs (by omega)
    have := Kt6 hl
    exact ⟨shq val D, rfl, limbs_length_le (by unfold shq; omega), limbs_length_le (by unfold shq; omega)⟩
  | unb => exact absurd (show (2 : Int) = 1 from hk) (by decide)
  | emp => exact absurd (show (3 : Int) = 1 from hk) (by decide)
end Go.Proofs.YtdhmbgogmoaofaaGreat
namespace Go.Proofs.YtdhmbgogmoaofaaGreat
open Go.Own Go.Limbs
attribute [local irreducible] St Ops Go.Own.Fin Ok OkB OkN wpA
theorem rFrom_tw (a b : Int) (ha : -9223372036854775808 ≤ a ∧ a ≤ 9223372036854775807) (hb : 0 ≤ b ∧ b < 4) : ∃ e : Int, 1 ≤ e ∧ e ≤ 12 ∧ Ok Tryz.prog 57 [intC a, intC (1 + b)] (.fr (tupT [twC (a * e), intC 0])) := by
  have hR := rFrom_ok a (1 + b) ha.1 ha.2 (by omega) (by omega) (by omega)
  have key : ∀ d e : Nat, d * e = 12 → 1 + b = (d : Int) → 1 ≤ (e : Int) → (e : Int) ≤ 12 → ∃ e : Int, 1 ≤ e ∧ e ≤ 12 ∧ Ok Tryz.prog 57 [intC a, intC (1 + b)] (.fr (tupT [twC (a * e), intC 0])) := fun d e h1 h2 h3 h4 => by
    refine ⟨(e : Int), h3, h4, ?_⟩
    have h5 : Rat.divInt a (1 + b) = tw (a * e) := by rw [h2]; exact tw_div a d e h1
    rw [h5] at hR
    exact hR
  rcases (by omega : 1 + b = 1 ∨ 1 + b = 2 ∨ 1 + b = 3 ∨ 1 + b = 4) with h | h | h | h
  · exact key 1 12 rfl h (by decide) (by decide)
  · exact key 2 6 rfl h (by decide) (by decide)
  · exact key 3 4 rfl h (by decide) (by decide)
  · exact key 4 3 rfl h (by decide) (by decide)
set_option maxHeartbeats 4000000 in
theorem Fractions_ok (bs : List Int) (p : Nat) (n : Int) (h0 : 0 ≤ n) (h1 : n ≤ 10) (hb : Bytes bs) :
    OkB Tryz.prog 15 82 (codes bs p) [intC n] (fun q : List Int × Nat => (q.1.length : Int) = n ∧ ∀ y ∈ q.1, 0 ≤ y ∧ y ≤ 132) (fun q => twsC q.1) (fun q => codes bs q.2) := by
  refine OkB.enter Tryz.func15 rfl _ Tryz.ntmps15 rfl ?_
  intro S w g
  (refine Qy (Qx fun K hK => ?_); refine Qv rfl rfl rfl ?_; refine Qj (hK _ _ (Qz (Qy ?_))); clear hK K; refine Qx (fun K hK => ?_); refine Qv rfl rfl rfl ?_; refine Qj (hK _ _ (Qz (Qy (Q2 ?_)))); clear hK K)
  refine X4 5 1 38 3 rfl rfl rfl ?_
  refine Ql (α := Int × List Int × Nat) (fun x => 0 ≤ x.1 ∧ x.2.1.length + x.1 = n ∧ ∀ y ∈ x.2.1, 0 ≤ y ∧ y ≤ 132)
    (fun x => [(0, .own 0), (1, .ct (intC x.1)), (5, .own 1)]) (fun x => [(1, .row 38 3 (frs x.2.1)), (0, .box 82 (codes bs x.2.2))]) (fun x => x.1.toNat) (n, [], p) ⟨h0, by simp, by simp⟩ (by exact QZ rfl ⟨rfl, rfl, rfl, trivial⟩) ?_
  rintro ⟨m, ys, p1⟩ ⟨hm0, hml, hys⟩
  dsimp only at hm0 hml hys ⊢
  (refine Qy (Qy (Qx fun K hK => ?_)); refine Qq rfl rfl rfl ?_; refine Qw igtr rfl rfl rfl rfl ?_; refine Qj (hK _ _ (Qz ?_)); clear hK K)
  refine Q0 rfl (fun hm => ?_) (fun hm => ?_)
  · (refine QU (Qz (Qy (Q2 (Qy (Qx fun K hK => ?_))))); refine Qq rfl rfl rfl ?_)
    refine XV goNext (Next_ok bs p1 12 (by decide) (by decide) hb) rfl rfl rfl rfl rfl (fun q hq => ?_)
    obtain ⟨a, p2⟩ := q
    dsimp only at hq ⊢
    (refine Qq rfl rfl rfl ?_)
    refine XV goNext (Next_ok bs p2 4 (by decide) (by decide) hb) rfl rfl rfl rfl rfl (fun q hq1 => ?_)
    obtain ⟨b, p3⟩ := q
    dsimp only at hq1 ⊢
    obtain ⟨e, he1, he2, hF⟩ := rFrom_tw a b ⟨by omega, by omega⟩ hq1
    have hae : 0 ≤ a * e ∧ a * e ≤ 132 := ⟨Int.mul_nonneg (by omega) (by omega), by
      have h1 := Int.mul_le_mul_of_nonneg_right (show a ≤ 11 by omega) (show 0 ≤ e by omega)
      omega⟩
    generalize a * e = y at hF hae
    (refine Qw (iadd (by omega) (by omega)) rfl rfl rfl rfl ?_)
    refine QX gorFrom hF rfl rfl rfl rfl ?_
    (refine Qq rfl rfl rfl ?_; refine QY rfl rfl rfl rfl ?_; refine QY rfl rfl rfl rfl ?_; refine Qd 2 rfl rfl (by with_reducible first | exact zvFrac) rfl rfl rfl ?_; refine Qa 3 rfl rfl rfl rfl rfl (by with_reducible exact szFrac) rfl rfl ?_; refine Qv rfl rfl rfl ?_; refine Qj (hK _ _ (Qz ?_)); clear hK K; refine Qx (fun K hK => ?_); refine Qq rfl rfl rfl ?_; refine Qp (n := 3) rfl rfl rfl rfl rfl (by with_reducible exact lFrac) rfl ?_)
    refine Ops.litN (n := 3) rfl rfl (by with_reducible exact sFracs) rfl rfl (by decide) rfl ?_
    refine Qh ys.length (frs (ys ++ [y])) rfl rfl rfl rfl (by with_reducible exact sFracs) (frs_len ys) rfl (by omega) (by omega) (frs_snoc ys y) rfl ?_
    (refine Qv rfl rfl rfl ?_; refine Qj (hK _ _ (Qz ?_)); clear hK K; refine Qx (fun K hK => ?_); refine Qq rfl rfl rfl ?_; refine Qw (isub (by omega) (by omega)) rfl rfl rfl rfl ?_; refine Qv rfl rfl rfl ?_; refine Qj (hK _ _ (Q5 ?_)); clear hK K)
    refine XY 2 ?_
    refine Q8 (m - 1, ys ++ [y], p3) (by dsimp only; omega) ⟨by dsimp only; omega, by simp; omega, mem_snoc hys hae⟩ (by exact QZ rfl ⟨rfl, rfl, rfl, trivial⟩)
  · refine St.frz 1 _ rfl (frs_frozen _ _) (okFix_lent rfl) ?_
    (refine Qe (Qz (Qy (Qx fun K hK => ?_))); refine Qq rfl rfl rfl ?_; refine Qv rfl rfl rfl ?_; refine Qj (hK _ _ (Qz (Q3 ?_))); clear hK K)
    refine Fin.retB (ys, p1) [_] rfl (QQ rfl Qu) rfl rfl ⟨by show (ys.length : Int) = n; omega, hys⟩
theorem goFractions : InGo Tryz.prog 15 := InGo.of Tryz.func15 rfl (by decide)
end Go.Proofs.YtdhmbgogmoaofaaGreat
namespace Go.Proofs.YtdhmbgogmoaofaaGreat
open Go.Own Go.Limbs
theorem F9.tw {m : Int} (h0 : 0 ≤ m) (h : m ≤ 1000) : F9 (tf m) := by
  obtain ⟨h1, h2⟩ := mk_le m 12 (by decide)
  exact ⟨Nat.lt_of_le_of_lt h1 (Nat.lt_of_le_of_lt (show m.natAbs ≤ 1000 by omega) (by decide)), Nat.lt_of_le_of_lt h2 (by decide), ofQ_den _, fun h => by
    have := tf_neg m
    rw [this] at h
    have := of_decide_eq_true h
    omega⟩
attribute [local irreducible] St Ops Go.Own.Fin Ok OkB OkN OkM wpA tf
set_option maxHeartbeats 16000000 in
theorem LinearBest_ok (bs : List Int) (hb : ∀ b ∈ bs, 0 ≤ b ∧ b < 256) : Ok Tryz.prog 4 [bytesC bs] (boolC true) := by
  refine Ok.enter Tryz.func4 rfl _ Tryz.ntmps4 rfl ?_
  intro S w
  have hB : Bytes (bs.take 400) := ⟨fun b h => (hb b (List.mem_of_mem_take h)).1, fun b h => (hb b (List.mem_of_mem_take h)).2, by simp; omega⟩
  have hRoll := Roll_ok bs
  generalize bs.take 400 = B0 at hB hRoll
  (refine Qy (Qx fun K hK => ?_); refine Qv rfl rfl rfl ?_; refine Qj (hK _ _ (Qz (Qy (Qy ?_)))); clear hK K; refine Qx (fun K hK => ?_))
  refine QX goawake34 awake34_ok rfl rfl rfl rfl ?_
  (refine Qr rfl rfl rfl ?_; refine Qj (hK _ _ (Qz (Qs rfl (QU (Qz (Qy ?_)))))); clear hK K; refine Qx (fun K hK => ?_); refine Qq rfl rfl rfl ?_)
  refine Ops.callN 0 goRoll hRoll rfl rfl rfl rfl rfl rfl ?_
  (refine Qv rfl rfl rfl ?_; refine Qj (hK _ _ (Qz (Qy ?_))); clear hK K; refine Qx (fun K hK => ?_); refine Qq rfl rfl rfl ?_)
  refine XV goProgram (Program_ok B0 0 hB) rfl rfl rfl rfl rfl (fun q hq => ?_)
  obtain ⟨n, rs, g, p1⟩ := q
  obtain ⟨n0, n1, rl, hrs, cl, hc⟩ := hq
  dsimp only at n0 n1 rl hrs cl hc ⊢
  have hv := valid_dice n0 n1 (by omega) hrs
  have hk := okc_in cl (fun y hy => by have := hc y hy; omega)
  obtain ⟨O, s1, T1⟩ := solve_ex hv hk
  obtain ⟨N, rfl⟩ := Int.eq_ofNat_of_zero_le n0
  rw [Int.toNat_natCast] at s1
  have hF := rCheck_sol hv hk (by omega) rl s1
  have hgb : ∀ i, -9223372036854775808 ≤ g.getD i 0 ∧ g.getD i 0 ≤ 9223372036854775807 := fun i => by
    rcases Nat.lt_or_ge i g.length with h4 | h4
    · have := hc _ (getD_mem (z := (0 : Int)) h4); omega
    · rw [getD_ge h4]; decide
  obtain ⟨v1, v2, v3, v4⟩ := validR_spec hv
  clear hc hrs hk v1 v2 v3
  (refine Qq rfl rfl rfl ?_; refine QY rfl rfl rfl rfl ?_; refine QY rfl rfl rfl rfl ?_; refine QY rfl rfl rfl rfl ?_; refine Qv rfl rfl rfl ?_; refine Qv rfl rfl rfl ?_; refine Qv rfl rfl rfl ?_; refine Qj (hK _ _ (Qz (Qy ?_))); clear hK K; refine Qx (fun K hK => ?_); refine Qq rfl rfl rfl ?_; refine Qq rfl rfl rfl ?_; refine Qq rfl rfl rfl ?_)
  refine QX goSolve T1 rfl rfl rfl rfl ?_
  clear T1
  (refine Qq rfl rfl rfl ?_; refine QY rfl rfl rfl rfl ?_; refine QY rfl rfl rfl rfl ?_; refine Qd 1 rfl rfl (by with_reducible exact zvOut) rfl rfl rfl ?_; refine Qa 7 rfl rfl rfl rfl rfl (by with_reducible exact szOut) rfl rfl ?_; refine Qv rfl rfl rfl ?_; refine Qj (hK _ _ (Qz (Qy (Qy ?_)))); clear hK K; refine Qx (fun K hK => ?_); refine Qq rfl rfl rfl ?_; refine Qw ineq rfl rfl rfl rfl ?_; refine Qq rfl rfl rfl ?_; refine Qq rfl rfl rfl ?_; refine Qq rfl rfl rfl ?_; refine Qq rfl rfl rfl ?_; refine Qp (n := 7) rfl rfl rfl rfl rfl (by with_reducible exact lOut) rfl ?_)
  refine QX gorCheck hF rfl rfl rfl rfl ?_
  clear hF
  (refine Qr rfl rfl rfl ?_; refine Q6 rfl rfl rfl rfl ?_; refine Qj (hK _ _ (Qz (Qs rfl (QU (Qz (Qy (Qy ?_))))))); clear hK K; refine Qx (fun K hK => ?_); refine Qv rfl rfl rfl ?_; refine Qj (hK _ _ (Qz (Q2 ?_))); clear hK K)
  refine Ql (α := Nat × Nat) (fun x => x.1 ≤ 8)
    (fun x => [(3, .own 0), (4, .ct (intC N)), (5, .ct (rowsC rs)), (6, .ct (intsC g)), (7, .own 1), (9, .ct (intC x.1))])
    (fun x => [(1, .box 46 (ocCs O)), (0, .box 82 (codes B0 x.2))]) (fun x => 8 - x.1) (0, p1) (Nat.zero_le _) (by exact QZ rfl ⟨rfl, rfl, rfl, rfl, rfl, rfl, trivial⟩) ?_
  rintro ⟨k, p2⟩ hk8
  dsimp only at hk8 ⊢
  (refine Qy (Qy (Qx fun K hK => ?_)); refine Qq rfl rfl rfl ?_; refine Qw ilss rfl rfl rfl rfl ?_; refine Qj (hK _ _ (Qz ?_)); clear hK K)
  refine Q0 rfl (fun hk1 => ?_) (fun hk1 => ?_)
  · (refine QU (Qz (Qy (Q2 (Qy (Qx fun K hK => ?_))))); refine Qv rfl rfl rfl ?_; refine Qj (hK _ _ (Qz (Qy (Qy ?_)))); clear hK K; refine Qx (fun K hK => ?_); refine Qv rfl rfl rfl ?_; refine Qj (hK _ _ (Qz (Q2 ?_))); clear hK K)
    refine X4 10 2 3 1 rfl rfl rfl ?_
    refine Ql (α := List Int × Nat) (fun x => x.1.length ≤ N ∧ ∀ y ∈ x.1, -1000 ≤ y ∧ y ≤ 1000)
      (fun x => [(3, .own 0), (4, .ct (intC N)), (5, .ct (rowsC rs)), (6, .ct (intsC g)), (7, .own 1), (9, .ct (intC k)), (10, .own 2), (11, .ct (intC x.1.length))])
      (fun x => [(2, .row 3 1 (ints x.1)), (1, .box 46 (ocCs O)), (0, .box 82 (codes B0 x.2))]) (fun x => N - x.1.length) ([], p2) ⟨Nat.zero_le _, fun y h => by cases h⟩ (by exact QZ rfl ⟨rfl, rfl, rfl, rfl, rfl, rfl, rfl, rfl, trivial⟩) ?_
    rintro ⟨ot, p3⟩ ⟨hol, hob⟩
    dsimp only at hol hob ⊢
    (refine Qy (Qy (Qx fun K hK => ?_)); refine Qq rfl rfl rfl ?_; refine Qq rfl rfl rfl ?_; refine Qw ilss rfl rfl rfl rfl ?_; refine Qj (hK _ _ (Qz ?_)); clear hK K)
    refine Q0 rfl (fun hi => ?_) (fun hi => ?_)
    · (refine QU (Qz (Qy (Q2 (Qx fun K hK => ?_)))); refine Qq rfl rfl rfl ?_; refine Qq rfl rfl rfl ?_)
      refine XV goNext (Next_ok B0 p3 7 (by decide) (by decide) hB) rfl rfl rfl rfl rfl (fun q hq => ?_)
      obtain ⟨c0, p4⟩ := q
      dsimp only at hq ⊢
      (refine Qw (isub (by omega) (by omega)) rfl rfl rfl rfl ?_)
      refine Xx rfl rfl (by with_reducible exact sInts) rfl rfl rfl ?_
      refine Qh ot.length (ints (ot ++ [c0 - 3])) rfl rfl rfl rfl (by with_reducible exact sInts) (by simp [ints]) rfl (by omega) (by omega) (by simp [ints]) rfl ?_
      (refine Qv rfl rfl rfl ?_; refine Qj (hK _ _ (Qz ?_)); clear hK K; refine Qx (fun K hK => ?_); refine Qq rfl rfl rfl ?_; refine Qw (iadd (by omega) (by omega)) rfl rfl rfl rfl ?_; refine Qv rfl rfl rfl ?_; refine Qj (hK _ _ (Q5 ?_)); clear hK K)
      refine Q8 (ot ++ [c0 - 3], p4) (by dsimp only; simp; omega) ⟨by dsimp only; simp; omega, mem_snoc hob (by omega)⟩ (by exact QZ rfl ⟨rfl, rfl, rfl, rfl, rfl, rfl, rfl, by simp only [List.length_append, List.length_singleton, Int.natCast_add]; rfl, trivial⟩)
    · have hol' : ot.length = N := by omega
      refine XW 2 _ rfl (ints_frozen _ _) noBor_sub ?_
      obtain ⟨O', s2, T2⟩ := solve_ex hv (okc_in (by omega) hob)
      rw [Int.toNat_natCast] at s2
      have he := sol_empty s1 s2
      have hpt := fun h => sol_point s2 rl h
      (refine Qe (Qz (Qy (Qx fun K hK => ?_))); refine Qq rfl rfl rfl ?_; refine Qq rfl rfl rfl ?_)
      refine XV goFractions (Fractions_ok B0 p3 N (by omega) (by omega) hB) rfl rfl rfl rfl rfl (fun q hq => ?_)
      obtain ⟨xs, p5⟩ := q
      obtain ⟨hxl, hx⟩ := hq
      dsimp only at hxl hx ⊢
      have hxl : xs.length = N := by omega
      refine Qv rfl rfl rfl ?_
      refine Qj (hK _ _ ?_)
      clear hK K
      refine Qz ?_
      refine Qy ?_
      refine St.cutN (α := List Fr × Nat) (fun x => x.1.length = N ∧ ∀ f ∈ x.1, F9 f) (fun x => [(3, .own 0), (4, .ct (intC N)), (5, .ct (rowsC rs)), (6, .ct (intsC g)), (7, .own 1), (9, .ct (intC k)), (12, .ct (fracsC x.1))])
        (fun x => [(1, .box 46 (ocCs O)), (0, .box 82 (codes B0 x.2))]) (fun x hJ => ?_) (fun KK hN => ?_)
      rotate_left
      · have htw : (xs.map tf).length = N ∧ ∀ f ∈ xs.map tf, F9 f := ⟨by rw [List.length_map]; exact hxl, fun f hf => by
          obtain ⟨m, hm, rfl⟩ := List.mem_map.1 hf
          have := hx m hm
          exact F9.tw (by omega) (by omega)⟩
        have hd : decide (O'.kind = 3) = decide (O.kind = 3) := decide_eq_decide.2 he
        rw [twsC_eq]
        generalize xs.map tf = xf at htw ⊢
        clear hx he hob hxl
        (refine Qy (Qx fun K hK => ?_); refine Qq rfl rfl rfl ?_; refine Qq rfl rfl rfl ?_; refine Qq rfl rfl rfl ?_)
        refine QX goSolve T2 rfl rfl rfl rfl ?_
        (refine Qq rfl rfl rfl ?_; refine QY rfl rfl rfl rfl ?_; refine QY rfl rfl rfl rfl ?_)
        refine Qd 2 rfl rfl (by with_reducible exact zvOut) rfl rfl rfl ?_
        (refine Qa 7 rfl rfl rfl rfl rfl (by with_reducible exact szOut) rfl rfl ?_; refine Qv rfl rfl rfl ?_; refine Qj (hK _ _ (Qz (Qy ?_))); clear hK K; refine Qx (fun K hK => ?_); refine Qq rfl rfl rfl ?_; refine Qw ineq rfl rfl rfl rfl ?_; refine Qq rfl rfl rfl ?_; refine QV rfl rfl rfl (by with_reducible first | exact fO0 | exact fO1 | exact fO2 | exact fO3 | exact fO4) rfl ?_; refine QJ rfl rfl rfl rfl rfl (by with_reducible first | exact lInt | exact lFracs) rfl ?_; refine Qw ieql rfl rfl rfl rfl ?_; refine QV rfl rfl rfl (by with_reducible first | exact fO0 | exact fO1 | exact fO2 | exact fO3 | exact fO4) rfl ?_; refine QJ rfl rfl rfl rfl rfl (by with_reducible first | exact lInt | exact lFracs) rfl ?_; refine Qw ieql rfl rfl rfl rfl ?_)
        rw [hd]
        refine Ops.bne rfl rfl rfl (by with_reducible exact uBool) rfl ?_
        (refine Q6 rfl rfl rfl rfl ?_; refine Qj (hK _ _ (Qz ?_)); clear hK K)
        refine Q0 rfl (fun h => absurd rfl h) (fun _ => ?_)
        (refine Qy (Qx fun K hK => ?_); refine QV rfl rfl rfl (by with_reducible first | exact fO0 | exact fO1 | exact fO2 | exact fO3 | exact fO4) rfl ?_; refine QJ rfl rfl rfl rfl rfl (by with_reducible first | exact lInt | exact lFracs) rfl ?_; refine Qw ineq rfl rfl rfl rfl ?_; refine Qq rfl rfl rfl ?_)
        refine Qg 85 rfl (fun k3 => ?_) (fun k3 => ?_)
        · (refine Qq rfl rfl rfl ?_)
          refine XV goBool (Bool_ok B0 p5 2 (by decide) (by decide) hB) rfl rfl rfl rfl rfl (fun q _ => ?_)
          obtain ⟨b, p6⟩ := q
          dsimp only
          (refine Q7 rfl rfl rfl rfl ?_; refine Qj (hK _ _ (Qz ?_)); clear hK K)
          refine X0 rfl (fun _ => ?_) (fun _ => ?_)
          · (refine Qx (fun K hK => ?_); refine QV rfl rfl rfl (by with_reducible first | exact fO0 | exact fO1 | exact fO2 | exact fO3 | exact fO4) rfl ?_; refine QJ rfl rfl rfl rfl rfl (by with_reducible first | exact lInt | exact lFracs) rfl ?_; refine Qv rfl rfl rfl ?_; refine Qj (hK _ _ ?_); clear hK K)
            refine XY 2 ?_
            exact XU hN (O'.point, p6) (hpt k3) (by exact QZ rfl ⟨rfl, rfl, rfl, rfl, rfl, rfl, rfl, trivial⟩)
          · (refine QU ?_)
            refine XY 2 ?_
            exact XU hN (xf, p6) htw (by exact QZ rfl ⟨rfl, rfl, rfl, rfl, rfl, rfl, rfl, trivial⟩)
        · (refine Qk rfl rfl rfl ?_; refine Qk rfl rfl rfl ?_; refine Q6 rfl rfl rfl rfl ?_; refine Qj (hK _ _ (Qz (Qs rfl (QU ?_)))); clear hK K)
          refine XY 2 ?_
          exact XU hN (xf, p5) htw (by exact QZ rfl ⟨rfl, rfl, rfl, rfl, rfl, rfl, rfl, trivial⟩)
      obtain ⟨x, p6⟩ := x
      obtain ⟨jl, j9⟩ := hJ
      dsimp only at jl j9 ⊢
      clear he hpt hx hxl hob T2 s2
      have hS := Satisfies_gen N rs x (by omega) (fun r hr => by have := (v4 r hr).1; omega) (by omega) (fun f hf => (j9 f hf).vf) (fun _ _ => sfit9 N rs _ hv (by omega) j9)
      obtain ⟨f1, f2, f3⟩ := vfit9 g x (by omega) hgb (by omega) j9
      have hV := Value_gen g x f1
      have hbest := fun hs => sat_best s1 hs (fun f hf => (j9 f hf).pos) (xs := x) (by omega)
      have z1 := sol_sz s1 rl
      generalize satB N rs x = sb at hS hbest
      (refine Qy (Qy (Qx fun K hK => ?_)); refine Qq rfl rfl rfl ?_; refine Qq rfl rfl rfl ?_; refine Qq rfl rfl rfl ?_)
      refine QX goSatisfies hS rfl rfl rfl rfl ?_
      cases sb with
      | false =>
        (refine Qr rfl rfl rfl ?_; refine Qj (hK _ _ (Qz (Xk rfl (Qe (Qz ?_))))); clear hK K; refine Qx (fun K hK => ?_); refine Qq rfl rfl rfl ?_; refine Qw (iadd (by omega) (by omega)) rfl rfl rfl rfl ?_; refine Qv rfl rfl rfl ?_; refine Qj (hK _ _ (Q5 ?_)); clear hK K)
        refine Q8 (k + 1, p6) (by dsimp only; omega) (by dsimp only; omega) (by exact QZ rfl ⟨rfl, rfl, rfl, rfl, rfl, by simp only [Int.natCast_add]; rfl, trivial⟩)
      | true =>
        obtain ⟨b3, b1⟩ := hbest rfl
        (refine Qr rfl rfl rfl ?_; refine Qj (hK _ _ (Qz (Qs rfl (QU (Qz (Qy (Qy ?_))))))); clear hK K; refine Qx (fun K hK => ?_); refine QV rfl rfl rfl (by with_reducible first | exact fO0 | exact fO1 | exact fO2 | exact fO3 | exact fO4) rfl ?_; refine QJ rfl rfl rfl rfl rfl (by with_reducible first | exact lInt | exact lFracs) rfl ?_; refine Qw ieql rfl rfl rfl rfl ?_; refine Qj (hK _ _ (Qz ?_)); clear hK K)
        refine Q0 rfl (fun h => absurd h b3) (fun _ => ?_)
        (refine QU (Qz (Qy (Qx fun K hK => ?_))); refine QV rfl rfl rfl (by with_reducible first | exact fO0 | exact fO1 | exact fO2 | exact fO3 | exact fO4) rfl ?_; refine QJ rfl rfl rfl rfl rfl (by with_reducible first | exact lInt | exact lFracs) rfl ?_; refine Qw ieql rfl rfl rfl rfl ?_; refine Qj (hK _ _ (Qz ?_)); clear hK K)
        refine Q0 rfl (fun k1 => ?_) (fun k1 => ?_)
        · obtain ⟨q, e1, hle⟩ := b1 k1
          obtain ⟨q1, g1, l1, l2⟩ := z1 k1
          rw [← g1, e1] at l1 l2
          have hC := rFCompare_q (vsum g x) q (by omega) (by omega) (by omega) (by omega)
          have hc0 := cmpQ_le hle
          rw [show ocCs O = [intC O.kind, boolC (ofQ q).neg, natC (ofQ q).num, natC (ofQ q).den, fracsC O.point, fracsC O.ray, fracsC O.dual] by rw [← e1]]
          (refine Qy (Qx fun K hK => ?_); refine Qq rfl rfl rfl ?_; refine Qq rfl rfl rfl ?_)
          refine QX goValue hV rfl rfl rfl rfl ?_
          (refine Qq rfl rfl rfl ?_; refine QY rfl rfl rfl rfl ?_; refine QY rfl rfl rfl rfl ?_; refine Qd 2 rfl rfl (by with_reducible first | exact zvFrac) rfl rfl rfl ?_; refine Qa 3 rfl rfl rfl rfl rfl (by with_reducible exact szFrac) rfl rfl ?_; refine Qv rfl rfl rfl ?_; refine Qj (hK _ _ (Qz (Qy ?_))); clear hK K; refine Qx (fun K hK => ?_); refine Qp (n := 3) rfl rfl rfl rfl rfl (by with_reducible exact lFrac) rfl ?_; refine QV rfl rfl rfl (by with_reducible first | exact fO0 | exact fO1 | exact fO2 | exact fO3 | exact fO4) rfl ?_; refine X7 (n := 3) rfl rfl rfl rfl (Nat.le_of_ble_eq_true rfl) (by with_reducible exact lFrac) rfl ?_)
          refine QX gorFCompareQ hC rfl rfl rfl rfl ?_
          (refine Qq rfl rfl rfl ?_; refine QY rfl rfl rfl rfl ?_; refine QY rfl rfl rfl rfl ?_; refine Qv rfl rfl rfl ?_; refine Qv rfl rfl rfl ?_; refine Qj (hK _ _ (Qz (Qy ?_))); clear hK K; refine Qx (fun K hK => ?_); refine Qq rfl rfl rfl ?_; refine Qw ineq rfl rfl rfl rfl ?_; refine Qq rfl rfl rfl ?_; refine Qq rfl rfl rfl ?_; refine Qw igtr rfl rfl rfl rfl ?_; refine Q6 rfl rfl rfl rfl ?_; refine Qj (hK _ _ (Qz ?_)); clear hK K)
          refine Q0 rfl (fun h => absurd h (by omega)) (fun _ => ?_)
          (refine QU (Qz (Qx fun K hK => ?_)); refine Qq rfl rfl rfl ?_; refine Qw (iadd (by omega) (by omega)) rfl rfl rfl rfl ?_; refine Qv rfl rfl rfl ?_; refine Qj (hK _ _ (Q5 ?_)); clear hK K)
          refine XY 2 ?_
          refine Q8 (k + 1, p6) (by dsimp only; omega) (by dsimp only; omega) (by exact QZ rfl ⟨rfl, rfl, rfl, rfl, rfl, by simp only [Int.natCast_add]; rfl, trivial⟩)
        · (refine QU (Qz (Qx fun K hK => ?_)); refine Qq rfl rfl rfl ?_; refine Qw (iadd (by omega) (by omega)) rfl rfl rfl rfl ?_; refine Qv rfl rfl rfl ?_; refine Qj (hK _ _ (Q5 ?_)); clear hK K)
          refine Q8 (k + 1, p6) (by dsimp only; omega) (by dsimp only; omega) (by exact QZ rfl ⟨rfl, rfl, rfl, rfl, rfl, by simp only [Int.natCast_add]; rfl, trivial⟩)
  · (refine Qe (Qz (Qy (Qx fun K hK => ?_))); refine Qv rfl rfl rfl ?_; refine Qj (hK _ _ (Qz (Q3 ?_))); clear hK K)
    refine QK [_] rfl (QQ rfl Qu) rfl rfl
end Go.Proofs.YtdhmbgogmoaofaaGreat
namespace Go.Proofs.YtdhmbgogmoaofaaGreat
open Go.Own Go.Limbs
attribute [local irreducible] St Ops Go.Own.Fin Ok OkB OkN OkM wpA
structure Rf where
  neg : Bool
  xs : List Int
  ys : List Int
def rf0 : Rf := ⟨false, [], []⟩
abbrev rfCs (f : Rf) : List CT := [boolC f.neg, intsC f.xs, intsC f.ys]
abbrev rfsC (x : List Rf) : CT := .fr (sliceT 3 (x.map rfCs))
def okRf (f : Rf) : Bool := (decide (f.xs.length ≤ 6) && decide (f.ys.length ≤ 6)) && fvalidL f.neg f.xs f.ys
def smallB (rs : List Rw) (c : List Int) (x : List Rf) : Bool := (decide (rs.length ≤ 6) && decide (c.length ≤ 6) && decide (x.length ≤ 6)) && (rs.all (fun r => decide (r.cs.length ≤ 6)) && x.all okRf)
end Go.Proofs.YtdhmbgogmoaofaaGreat
namespace Go.Proofs.YtdhmbgogmoaofaaGreat
open Go.Own Go.Limbs
section
variable {H : Type} {enc : TypeId × Value → H} {P : Program} {w : World} {base : Nat} {spare : Nat → Bool} {held : Bool}
theorem slice_in {α : Type} {t e : TypeId} {n fuel : Nat} {cs0 : List Value} {x : DataW H × List MemPlace} (ht : P.underlying t = some (.slice e)) (hn : P.cellsOf e = n) (hn0 : 0 < n) (f : α → List CT) (hf : ∀ z, (f z).length = n) (good : α → Prop)
    (hE : ∀ m cs y, DataW.trod enc P w base spare held m e cs = some y → cs.length = n → ∃ z, cells (fun _ => True) w (f z) cs ∧ good z)
    (h : DataW.trod enc P w base spare held fuel t cs0 = some x) : ∃ (v : Value) (zs : List α), cs0 = [v] ∧ zs.length ≤ 9223372036854775807 ∧ (∀ z ∈ zs, good z) ∧ (CT.fr (sliceT n (zs.map f))).p (fun _ => True) w v := by
  rcases DataW.trod_slice ht h with ⟨h0, _⟩ | ⟨a, len, cap, elems, rest, m, _, rfl, rfl, _, hl, hm, hlen, hel, _⟩
  · exact ⟨_, [], h0, Nat.zero_le _, (fun z hz => nomatch hz), nil_is n _ w⟩
  rw [hn] at hel
  have key : ∀ k, k ≤ len → ∃ (zs : List α) (vs : List Value), zs.length = k ∧ (∀ z ∈ zs, good z) ∧ cells (fun _ => True) w (zs.map f).flatten vs ∧ vs.length = k * n ∧ ∀ i u, vs[i]? = some u → w.cell? (a.add i) = some u := by
    intro k
    induction k with
    | zero => intro _; exact ⟨[], [], rfl, (fun z hz => nomatch hz), trivial, (Nat.zero_mul n).symm, fun i u hu => by simp at hu⟩
    | succ k ih =>
      intro hk
      obtain ⟨zs, vs, e1, e2, e3, e4, e5⟩ := ih (by omega)
      have h1 := hel k (by omega)
      rw [List.getElem?_eq_getElem (show k < elems.length by omega), Option.bind_eq_some_iff] at h1
      obtain ⟨cs, h2, h3⟩ := h1
      obtain ⟨_, h4, h5⟩ := World.cells?_some h2
      obtain ⟨z, h6, h7⟩ := hE _ _ _ h3 h4
      refine ⟨zs ++ [z], vs ++ cs, by simp [e1], ?_, ?_, by rw [List.length_append, e4, h4, Nat.succ_mul], ?_⟩
      · intro y hy
        rcases List.mem_append.1 hy with hy | hy
        · exact e2 y hy
        · rw [List.mem_singleton.1 hy]; exact h7
      · rw [List.map_append, List.flatten_append]
        refine cells.append e3 ?_
        simpa using h6
      · intro i u hu
        rcases Nat.lt_or_ge i (k * n) with hi | hi
        · rw [List.getElem?_append_left (by omega)] at hu
          exact e5 i u hu
        · rw [List.getElem?_append_right (by omega), e4] at hu
          have hlt : i - k * n < n := by
            have := (List.getElem?_eq_some_iff.1 hu).1
            omega
          have := h5 (i - k * n) hlt
          rw [Addr.add_add, show k * n + (i - k * n) = i by omega] at this
          rw [this, hu]
  obtain ⟨zs, vs, e1, e2, e3, e4, e5⟩ := key len (Nat.le_refl _)
  have hmx : maxLen = 9223372036854775807 := by decide
  refine ⟨_, zs, rfl, by omega, e2, some a, cap, by rw [List.length_map, e1], by rw [List.length_map, e1]; exact hl, hm, fun y hy => by obtain ⟨z, _, rfl⟩ := List.mem_map.1 hy; exact hf z, fun hne => ?_⟩
  have hpos : 0 < len := by
    rcases Nat.eq_zero_or_pos len with h0 | h0
    · rw [h0] at e1; rw [List.length_eq_zero_iff.1 e1] at hne; exact absurd rfl hne
    · exact h0
  have hvl : 0 < vs.length := by rw [e4]; exact Nat.mul_pos hpos hn0
  have h0 := e5 0 _ (List.getElem?_eq_getElem hvl)
  obtain ⟨b, o, sp⟩ := a
  have hsp : sp = none ∧ b < w.heap.size := by
    simp only [Addr.add, if_true, World.cell?] at h0
    cases e : w.heap[b]? with
    | none => rw [e] at h0; cases h0
    | some ob =>
      rw [e] at h0
      cases ob with
      | cells c t r =>
        refine ⟨?_, heap_lt e⟩
        cases sp with
        | none => rfl
        | some q => simp at h0
      | _ => cases h0
  obtain ⟨rfl, hb⟩ := hsp
  refine ⟨b, o, rfl, trivial, hb, vs, e3, fun i u hu => ?_⟩
  have h1 := e5 i u hu
  have h3 : (⟨b, o, none⟩ : Addr).add i = ⟨b, o + i, none⟩ := by
    unfold Addr.add
    split
    · rename_i h; subst h; rfl
    · rfl
  rw [h3] at h1
  exact h1
theorem bytes_in {t e : TypeId} {fuel : Nat} {cs0 : List Value} {x : DataW H × List MemPlace} (ht : P.underlying t = some (.slice e)) (he : P.underlying e = some (.int .u8)) (hn : P.cellsOf e = 1)
    (h : DataW.trod enc P w base spare held fuel t cs0 = some x) : ∃ (v : Value) (zs : List Int), cs0 = [v] ∧ (∀ z ∈ zs, 0 ≤ z ∧ z < 256) ∧ (bytesC zs).p (fun _ => True) w v := by
  obtain ⟨v, zs, h1, _, h2, h3⟩ := slice_in ht hn (by decide) (fun z : Int => [CT.ex (Value.int .u8 z)]) (fun _ => rfl) (fun z => 0 ≤ z ∧ z < 256) (fun m cs y hy _ => by
    obtain ⟨z, rfl, _, hw⟩ := DataW.trod_int he hy
    exact ⟨z, ⟨rfl, trivial⟩, by have := bounds_u8 hw; omega⟩) h
  exact ⟨v, zs, h1, h2, h3⟩
end
end Go.Proofs.YtdhmbgogmoaofaaGreat
namespace Go.Proofs.YtdhmbgogmoaofaaGreat.linearBest
open Go.ChangeShapes Go.WideShapes Go.ChangeAt Go.RowKit
open Go.ChangeMaps (open_string shut_string)
set_option linter.unusedVariables false
theorem own : ownKnob Tryz.prog.godebug = none := by kernel_rfl
theorem laidOut : laidOutB Tryz.prog = true := by kernel_rfl
set_option maxRecDepth 100000 in
theorem lifted (os : Os) (started : os.Started) (H : Type) (enc : TypeId × Value → H) :
    ReturnsInHanded {} Tryz.checked os 4 .any (Rows.linearBestSpec.pre6 enc Tryz.prog Tryz.f4 Rows.linearBestRow.domain false) (Rows.linearBestSpec.post enc Tryz.prog Tryz.f4 false true false false) := by
  refine returnsInHanded_of_change (C := Tryz.checked) own started (by kernel_rfl) Tryz.func4
    (ChangeSpec.witness6 (enc := enc) (C := Tryz.checked) false ⟨#[], #[.slice none 0 0], []⟩ 8 (by kernel_rfl) (by kernel_rfl) (by kernel_rfl) (by kernel_rfl)) ?_
  intro W base args ds gs before hval0 hW hcnd _
  have hval : ∀ (j : Nat) t v, Tryz.f4.params[j]? = some t → args[j]? = some v → Value.okWide Tryz.prog W .any base t v := hval0
  have hW' := hW
  obtain ⟨p, q, hA0, hV, rfl, hfz, hnd⟩ := hW
  have hA : DataW.TrodAll enc Tryz.prog W 0 (fun _ => true) true Tryz.f4.params.toList args.toList ds p := hA0
  rw [Tryz.params4] at hA hval
  obtain ⟨v0, vs0, d0, ds0, p0, q0, hargs0, rfl, rfl, h0, r0⟩ := trodAll_cons hA
  obtain ⟨rfl, rfl, rfl⟩ := trodAll_nil r0
  obtain rfl : args = #[v0] := by cases args; simp_all
  obtain ⟨rfl, rfl⟩ := trodVars_none hV
  obtain ⟨a0, len0, cap0, rfl⟩ := okWide_slice Tryz.underlying22 (hval 0 22 v0 rfl rfl)
  have k0 := h0
  have lt0 : ∀ x ∈ p0, x.block < W.heap.size := by obtain ⟨m, hm⟩ := k0; exact DataW.trod_lt m _ _ _ hm
  obtain ⟨f0, t0⟩ := h0
  obtain ⟨u0, z0, e0, c0, w0⟩ := bytes_in Tryz.underlying22 Tryz.underlying5 (by kernel_rfl) t0
  have e0 : Value.slice a0 len0 cap0 = u0 := by simpa [Value.cells] using e0
  subst e0
  clear hA0 hval0
  refine (((LinearBest_ok z0 c0) (fun _ => True) W [.slice a0 len0 cap0] (fun _ _ => trivial) ⟨w0, trivial⟩)).mono fun e W' ⟨v, he, hv, bel⟩ => ?_
  have hv : v = .bool true := hv
  subst hv he
  exact ⟨_, rfl, _, _, _, [], _, [], hW', trodAll_mk1 (shut_bool Tryz.underlying4 _), (trodAll_cons_mk (Below.trod laidOut (by kernel_rfl) (of_decide_eq_true (by kernel_rfl)) k0 bel lt0) trodAll_mk0), rfl, bel.frame _, fun h => by cases h⟩
theorem over : Rows.linearBestRow.holds Tryz.pinned (OpenSpec.ofChange Rows.linearBestSpec) :=
  OpenClaim.holds_of_wide 4 Tryz.f4 rfl rfl rfl rfl rfl rfl rfl ⟨rfl, rfl, rfl, rfl, rfl⟩ rfl rfl rfl rfl rfl (by kernel_rfl) Tryz.func4 (by kernel_rfl)
    (of_decide_eq_true (by kernel_rfl)) (by unfold Func.isWrapper; first | (rw [if_pos (by decide +kernel)]; kernel_rfl) | (rw [if_neg (by decide +kernel)]; exact ⟨rfl, rfl⟩))
    (fun os started H enc _ => lifted os started H enc)
theorem proved : Rows.LinearBestSaid := over
#print axioms proved
end Go.Proofs.YtdhmbgogmoaofaaGreat.linearBest
