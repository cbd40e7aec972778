/- The proof that LossCovers holds for every input, without conditions: part 3 of 5. -/
import Derived.Test.YtlkdkbdgnjcopaaGreatZ2
import Derived.Shelf.SlLaysF0
import Derived.TacticsInMore
import Derived.RegionIn
import Derived.LoopNIn
import Derived.LoopIn
namespace Go.Proofs.YtlkdkbdgnjcopaaGreat
open Go.Own
attribute [local irreducible] St Ops Go.Own.Fin Ok OkB OkN
theorem sBytes : SlcT Tryz.prog 22 5 1 1 (.int .u8 0) := SlcT.of Tryz.underlying22 (by kernel_rfl) rfl (by decide)
theorem lBytes : Ld1 Tryz.prog 22 := Ld1.of _ Tryz.underlying22 rfl
theorem lU8 : Ld1 Tryz.prog 5 := Ld1.of _ Tryz.underlying5 rfl
theorem uU8 : Tryz.prog.underlying 5 = some (.int .u8) := Tryz.underlying5
theorem uInt : Tryz.prog.underlying 3 = some (.int .i64) := Tryz.underlying3
theorem fC0 : fldInfo Tryz.prog 78 0 = some (0, some 1) := by kernel_rfl
theorem fC1 : fldInfo Tryz.prog 78 1 = some (1, some 1) := by kernel_rfl
theorem bCodes : bInfo Tryz.prog 78 = some (.agg #[.slice none 0 0, .int .i64 0], [(0, some 1), (1, some 1)]) := by kernel_rfl
abbrev bytesC (bs : List Int) : CT := .fr (sliceT 1 (bs.map fun b => [CT.ex (.int .u8 b)]))
abbrev codes (bs : List Int) (p : Nat) : List CT := [bytesC bs, intC p]
structure Bytes (bs : List Int) : Prop where
  lo : ∀ b ∈ bs, 0 ≤ b
  hi : ∀ b ∈ bs, b < 256
  len : bs.length ≤ 400
theorem bytes_at {bs : List Int} {j : Int} (h0 : 0 ≤ j) (h : j < (bs.length : Int)) : (bs.map fun b => [CT.ex (.int .u8 b)])[j.toNat]? = some [CT.ex (.int .u8 (bs.getD j.toNat 0))] := by
  have hl : j.toNat < bs.length := by omega
  rw [List.getElem?_map, List.getElem?_eq_getElem hl, List.getD_eq_getElem?_getD, List.getElem?_eq_getElem hl]; rfl
theorem Bytes.at {bs : List Int} (h : Bytes bs) (j : Nat) : 0 ≤ bs.getD j 0 ∧ bs.getD j 0 < 256 := by
  rw [List.getD_eq_getElem?_getD]
  cases e : bs[j]? with
  | none => simp
  | some b =>
    have := List.mem_of_getElem? e; exact ⟨h.lo b this, h.hi b this⟩
theorem goNext : InGo Tryz.prog 11 := InGo.of Tryz.func11 rfl (by decide)
set_option maxHeartbeats 2000000 in
theorem Next_ok (bs : List Int) (p : Nat) (n : Int) (h1 : 1 ≤ n) (h2 : n ≤ 256) (hb : Bytes bs) :
    OkB Tryz.prog 11 78 (codes bs p) [intC n] (fun q : Int × Nat => 0 ≤ q.1 ∧ q.1 < n) (fun q => intC q.1) (fun q => codes bs q.2) := by
  have hlen := hb.len
  refine OkB.enter Tryz.func11 J _ Tryz.ntmps11 J ?_
  intro S w g; refine Qw (Qq fun K hK => ?_); refine Qv J J J (Qj (hK _ _ (Qz (Qw (Qw ?_))))); clear hK K; refine Xu mixed 14 (.p 0 (.p 1 (.p 2 (.p 4 (.p 5 (.p 6 (.f 3 (.f 7 (.p 8 (.p 9 (.p 10 (.p 11 (.p 12 (.p 13 .done)))))))))))))) (by kernel_rfl) (fun K hK => ?_); refine Qx J J J (Xb J J J J (QV J J J fC1 J (Qx J J J (Xb J J J J (QV J J J fC0 J (QJ J J J J J lInt J (QJ J J J J J lBytes J (Qd J J sBytes.und (List.length_map ..) J (Qk igeq J J J J (Qx J J J (Q6 16 J (fun h => ?_) (fun h => ?_))))))))))))
  · refine Qy J J J (Qy J J J (QZ J J J J (Qj (hK _ _ (Qz (Qo J (Qw ?_))))))); clear hK K; refine Qq (fun K hK => ?_); refine Qv J J J (Qj (hK _ _ (Qz (Q0 (QY ?_))))); clear hK K; refine Yz (0, p) [_] rfl (Qu J QQ) J J ⟨by show (0 : Int) ≤ 0; omega, by show (0 : Int) < n; omega⟩
  · refine Qx J J J (Qk ilss J J J J (QU J J J J (Qj (hK _ _ (Qz ?_))))); clear hK K; refine Q2 J (fun h' => ?_) (fun h' => ?_)
    · exact absurd h' (by omega)
    · refine Q1 (Qz (Qw ?_)); refine Xu mixed 12 (.p 0 (.p 1 (.p 2 (.p 4 (.p 5 (.p 6 (.f 3 (.f 7 (.p 8 (.f 9 (.p 10 (.p 11 .done)))))))))))) (by kernel_rfl) (fun K hK => ?_); refine Qx J J J (Xb J J J J (QV J J J fC0 J (Qx J J J (Xb J J J J (QV J J J fC1 J (QJ J J J J J lBytes J (QJ J J J J J lInt J (Ql J J J sBytes (by omega) (bytes_at (by omega) (by omega)) J ?_))))))))
      refine XQ J J J lU8 J ?_
      have hx := hb.at p; generalize he : bs.getD p 0 = x at hx
      refine Yx (q := x) J J uU8 uInt (by rw [Int.toNat_natCast, he]; exact Yy (by omega) (by omega)) J ?_
      refine Qv J J J (Qj (hK _ _ (Qz (Qw ?_)))); clear hK K; refine Qq (fun K hK => ?_); refine Qx J J J (Xb J J J J (QV J J J fC1 J (QJ J J J J J lInt J (Qk (iadd (by omega) (by omega)) J J J J ?_)))); refine Xb J J J J (QV J J J fC1 J (X6 J J J J J zInt (by simp [Ent.cs]) ?_)); refine Qj (hK _ _ (Qz (Qw (Qw ?_)))); clear hK K; refine Qq (fun K hK => ?_); refine Qx J J J (Qk igtr J J J J (Qj (hK _ _ (Qz ?_)))); clear hK K; refine Q2 J (fun h' => ?_) (fun h' => ?_)
      · exact absurd h' (by omega)
      · refine Q1 (Qz (Qw (Qq fun K hK => ?_))); refine Qx J J J (Qx J J J (Qk (irem (by omega) (by omega)) J J J J ?_)); refine Qv J J J (Qj (hK _ _ (Qz (Q0 ?_)))); clear hK K; refine Yz (x % n, p + 1) [_] rfl (Qu J QQ) J J ⟨Int.emod_nonneg _ (by omega), Int.emod_lt_of_pos _ (by omega)⟩
theorem goNew : InGo Tryz.prog 37 := InGo.of Tryz.func37 rfl (by decide)
theorem New_ok (bs : List Int) : OkN Tryz.prog 37 [bytesC bs, intC 400] 78 (codes (bs.take 400) 0) := by
  refine OkN.enter Tryz.func37 J _ Tryz.ntmps37 J ?_
  intro S w; refine Qw (Qq fun K hK => ?_); refine Qv J J J (Qj (hK _ _ (Qz (Qw (Qw ?_))))); clear hK K; refine Qq (fun K hK => ?_); refine Qx J J J (Qd J J sBytes.und (List.length_map ..) J (Qx J J J (Qk igtr J J J J (Qj (hK _ _ (Qz ?_)))))); clear hK K; refine Q2 J (fun h' => ?_) (fun h' => ?_)
  · refine Qq (fun K hK => ?_); refine Qx J J J (Qx J J J (Ops.cutHi J J J sBytes (by omega) (by rw [List.length_map]; omega) J ?_)); rw [← List.map_take]; refine Qv J J J (Qj (hK _ _ (Qz (Qw ?_)))); clear hK K; refine Qq (fun K hK => ?_); refine Qx J J J (Qs J bCodes J (.one J J J J .nil) J (Xk 0 J J J J J J J (Qv J J J (Qj (hK _ _ (Qz (Q0 ?_))))))); clear hK K; refine Fin.retN J J J J
  · refine Q1 (Qz (Qw (Qq fun K hK => ?_))); refine Qx J J J (Qs J bCodes J (.one J J J J .nil) J (Xk 0 J J J J J J J (Qv J J J (Qj (hK _ _ (Qz (Q0 ?_))))))); clear hK K; refine Fin.retN J J (by rw [List.take_of_length_le (by omega)]; rfl) J
theorem goRoll : InGo Tryz.prog 10 := InGo.of Tryz.func10 rfl (by decide)
theorem Roll_ok (bs : List Int) : OkN Tryz.prog 10 [bytesC bs] 78 (codes (bs.take 400) 0) := by
  refine OkN.enter Tryz.func10 J _ Tryz.ntmps10 J ?_
  intro S w; refine Qw (Qq fun K hK => ?_); refine Qv J J J (Qj (hK _ _ (Qz (Qw ?_)))); clear hK K; refine Qq (fun K hK => ?_); refine Qx J J J (Ops.callN 0 goNew (New_ok bs) J J J J J J (Qv J J J (Qj (hK _ _ (Qz (Q0 ?_)))))); clear hK K; refine Fin.retN J J J J
theorem goPick : InGo Tryz.prog 24 := InGo.of Tryz.func24 rfl (by decide)
theorem Pick_ok (bs : List Int) (p : Nat) (xs : List Int) (h1 : 1 ≤ xs.length) (h2 : xs.length ≤ 256) (hb : Bytes bs) :
    OkB Tryz.prog 24 78 (codes bs p) [intsC xs] (fun q : Int × Nat => q.1 ∈ xs) (fun q => intC q.1) (fun q => codes bs q.2) := by
  refine OkB.enter Tryz.func24 J _ Tryz.ntmps24 J ?_
  intro S w g; refine Qw (Qq fun K hK => ?_); refine Qv J J J (Qj (hK _ _ (Qz (Qw ?_)))); clear hK K; refine Qq (fun K hK => ?_); refine Qx J J J (Qx J J J (Qx J J J (Qd J J sInts.und (List.length_map ..) J (Xw goNext (Next_ok bs p xs.length (by omega) (by omega) hb) J J J J J (fun q hq => ?_))))); obtain ⟨x, p'⟩ := q; dsimp only at hq
  refine Ql J J J sInts (by omega) (X3 (by omega) (by omega)) J ?_
  refine XQ J J J lInt J (Qv J J J (Qj (hK _ _ (Qz (Q0 ?_))))); clear hK K
  refine Yz (xs.getD x.toNat 0, p') [_] rfl (Qu J QQ) J J ?_
  show xs.getD x.toNat 0 ∈ xs
  have hl : x.toNat < xs.length := by omega
  rw [List.getD_eq_getElem?_getD, List.getElem?_eq_getElem hl]; exact List.getElem_mem hl
attribute [local irreducible] OkF OkL OkT
theorem wrap_u32 {n : Int} (h1 : 0 ≤ n) (h2 : n < 4294967296) : IntKind.u32.wrap n = n := by
  rw [show IntKind.u32.wrap n = n % 4294967296 by simp [IntKind.wrap, IntKind.bits, IntKind.signed]]; omega
theorem goAddress : InGo Tryz.prog 23 := InGo.of Tryz.func23 rfl (by decide)
theorem Address_ok (bs : List Int) (p : Nat) (hb : Bytes bs) : OkB Tryz.prog 23 78 (codes bs p) [] (fun q : Int × Nat => 1 ≤ q.1 ∧ q.1 < 200000000) (fun q => adrC q.1) (fun q => codes bs q.2) := by
  refine OkB.enter Tryz.func23 rfl _ Tryz.ntmps23 rfl ?_
  intro S w g
  (refine Qw (Qq fun K hK => ?_); refine Qv rfl rfl rfl ?_; refine Qj (hK _ _ (Qz (Qw ?_))); clear hK K; refine Qq (fun K hK => ?_); refine Qx rfl rfl rfl ?_)
  refine Ops.lit (m := 8) (cs := ints [1, 2, 5, 6, 9, 10, 12, 13]) rfl rfl (by with_reducible exact sInts) (.one rfl rfl rfl rfl (.one rfl rfl rfl rfl (.one rfl rfl rfl rfl (.one rfl rfl rfl rfl (.one rfl rfl rfl rfl (.one rfl rfl rfl rfl (.one rfl rfl rfl rfl (.one rfl rfl rfl rfl .nil)))))))) (by decide) rfl ?_
  refine Xw goPick (Pick_ok bs p [1, 2, 5, 6, 9, 10, 12, 13] (by decide) (by decide) hb) rfl rfl rfl rfl rfl (fun q hq => ?_)
  obtain ⟨x, p1⟩ := q
  have hx : 1 ≤ x ∧ x ≤ 13 := by
    simp only [List.mem_cons, List.not_mem_nil, or_false] at hq
    omega
  dsimp only
  (refine Qk (iadd (by omega) (by omega)) rfl rfl rfl rfl ?_)
  refine Yx (q := 167772160 + x) rfl rfl (by with_reducible exact uInt) (by with_reducible exact uAddr) (wrap_u32 (by omega) (by omega)) rfl ?_
  (refine Qv rfl rfl rfl ?_; refine Qj (hK _ _ (Qz (Q0 ?_))); clear hK K)
  refine Yz (167772160 + x, p1) [_] rfl (Qu rfl QQ) rfl rfl ⟨by show 1 ≤ 167772160 + x; omega, by show 167772160 + x < 200000000; omega⟩
attribute [local irreducible] wpR
section
variable {X : Ctx} {L : AL} {B : BL} {ops : Array Oper} {K : Act → World → Prop} {r : Pl} {k : Kd}
  {x y z : Operand} {d : Nat} {t t2 t' : TypeId} {pos : String} {af : Array Edge} {g : Option (Nat × Bool)}
def evAllI (L : AL) : Nat → List (Nat × Operand) → List Int → Prop
  | _, [], [] => True
  | s, (i, x) :: q, y :: ys => i = s ∧ ev L x = some (.ct (intC y)) ∧ evAllI L (s + 1) q ys
  | _, _, _ => False
theorem parts_ints : ∀ (ps : List (Nat × Operand)) (ys : List Int) (s : Nat) (pre zs : List CT), pre.length = s → zs.length = ys.length → evAllI L s ps ys → BParts L (fun i => some (i * 1, 1)) ps (pre ++ zs) (pre ++ ints ys)
  | [], [], _, pre, zs, _, h2, _ => by
    have : zs = [] := List.eq_nil_of_length_eq_zero h2
    subst this
    exact .nil
  | [], _ :: _, _, _, _, _, _, h => h.elim
  | _ :: _, [], _, _, _, _, _, h => h.elim
  | (i, x) :: q, y :: ys, s, pre, z :: zs, h1, h2, h => by
    obtain ⟨rfl, h3, h4⟩ := h
    refine .one (off := i * 1) (c := intC y) rfl h3 rfl (by rw [Nat.blt_eq, List.length_append, List.length_cons]; omega) ?_
    have e : (pre ++ z :: zs).set (i * 1) (intC y) = (pre ++ [intC y]) ++ zs := by
      rw [Nat.mul_one, List.set_append_right _ _ (by omega), h1, Nat.sub_self, List.set_cons_zero, List.append_assoc]; rfl
    have e2 : pre ++ ints (y :: ys) = (pre ++ [intC y]) ++ ints ys := by simp [ints]
    rw [e, e2]
    exact parts_ints q ys (i + 1) (pre ++ [intC y]) zs (by rw [List.length_append, h1]; rfl) (by simpa using h2) h4
  | _ :: _, _ :: _, _, _, [], _, h2, _ => by simp at h2
theorem chunk_ints : ∀ xs : List Int, chunk 1 xs.length (ints xs) = xs.map fun x => [intC x]
  | [] => rfl
  | x :: xs => by
    show ((ints (x :: xs)).take 1) :: chunk 1 xs.length ((ints (x :: xs)).drop 1) = _
    rw [show (ints (x :: xs)).drop 1 = ints xs by simp [ints], chunk_ints xs]
    rfl
theorem Ops.litI {ps : List (Nat × Operand)} {m : Nat} (xs : List Int) (hk : k.mk = true) (hg : gd ops L g = some true) (hT : SlcT X.P t 3 1 8 (.int .i64 0)) (hm : xs.length = m) (hp : evAllI L 0 ps xs) (hml : m ≤ 16777216) (hn : Nat.blt d X.n = true)
    (h : Ops X ops r ((d, .ct (intsC xs)) :: L) B K) : Ops X ops (.cons ⟨some d, .buildSlice t m ps.toArray, t', pos, af, g⟩ k r) L B K := by
  subst hm
  refine Ops.lit (cs := ints xs) hk hg hT ?_ (by omega) hn ?_
  · exact parts_ints ps xs 0 [] _ rfl ((zinit_len hT xs.length).trans (Nat.mul_one _)) hp
  · rw [chunk_ints]; exact h
end
set_option maxHeartbeats 2000000 in
theorem Zd (bs : List Int) (p : Nat) (n : Int) (h1 : 1 ≤ n) (h2 : n ≤ 1000000) (hb : Bytes bs) :
    OkB Tryz.prog 11 78 (codes bs p) [intC n] (fun q : Int × Nat => 0 ≤ q.1 ∧ q.1 < n) (fun q => intC q.1) (fun q => codes bs q.2) := by
  rcases Int.lt_or_le 256 n with h3 | h3
  rotate_left
  · exact Next_ok bs p n h1 h3 hb
  have hlen := hb.len
  refine OkB.enter Tryz.func11 rfl _ Tryz.ntmps11 rfl ?_
  intro S w g
  (refine Qw (Qq fun K hK => ?_); refine Qv rfl rfl rfl ?_; refine Qj (hK _ _ (Qz (Qw (Qw ?_)))); clear hK K)
  refine Xu (by with_reducible exact mixed) 14 (.p 0 (.p 1 (.p 2 (.p 4 (.p 5 (.p 6 (.f 3 (.f 7 (.p 8 (.p 9 (.p 10 (.p 11 (.p 12 (.p 13 .done)))))))))))))) (by kernel_rfl) (fun K hK => ?_)
  (refine Qx rfl rfl rfl ?_; refine Xb rfl rfl rfl rfl ?_; refine QV rfl rfl rfl (by with_reducible first | exact fC0 | exact fC1 | exact fR0 | exact fR1) rfl ?_; refine Qx rfl rfl rfl ?_; refine Xb rfl rfl rfl rfl ?_; refine QV rfl rfl rfl (by with_reducible first | exact fC0 | exact fC1 | exact fR0 | exact fR1) rfl ?_; refine QJ rfl rfl rfl rfl rfl (by with_reducible first | exact lBytes | exact lInt | exact lInts) rfl ?_; refine QJ rfl rfl rfl rfl rfl (by with_reducible first | exact lBytes | exact lInt | exact lInts) rfl ?_; refine Qd rfl rfl (by with_reducible exact sBytes.und) (List.length_map ..) rfl ?_; refine Qk igeq rfl rfl rfl rfl ?_; refine Qx rfl rfl rfl ?_)
  refine Q6 16 rfl (fun h => ?_) (fun h => ?_)
  · (refine Qy rfl rfl rfl ?_; refine Qy rfl rfl rfl ?_; refine QZ rfl rfl rfl rfl ?_; refine Qj (hK _ _ (Qz (Qo rfl (Qw ?_)))); clear hK K; refine Qq (fun K hK => ?_); refine Qv rfl rfl rfl ?_; refine Qj (hK _ _ (Qz (Q0 (QY ?_)))); clear hK K)
    refine Yz (0, p) [_] rfl (Qu rfl QQ) rfl rfl ⟨by show (0 : Int) ≤ 0; omega, by show (0 : Int) < n; omega⟩
  · (refine Qx rfl rfl rfl ?_; refine Qk ilss rfl rfl rfl rfl ?_; refine QU rfl rfl rfl rfl ?_; refine Qj (hK _ _ (Qz ?_)); clear hK K)
    refine Q2 rfl (fun h' => ?_) (fun h' => ?_)
    · exact absurd h' (by omega)
    · (refine Q1 (Qz (Qw ?_)))
      refine Xu (by with_reducible exact mixed) 12 (.p 0 (.p 1 (.p 2 (.p 4 (.p 5 (.p 6 (.f 3 (.f 7 (.p 8 (.f 9 (.p 10 (.p 11 .done)))))))))))) (by kernel_rfl) (fun K hK => ?_)
      (refine Qx rfl rfl rfl ?_; refine Xb rfl rfl rfl rfl ?_; refine QV rfl rfl rfl (by with_reducible first | exact fC0 | exact fC1 | exact fR0 | exact fR1) rfl ?_; refine Qx rfl rfl rfl ?_; refine Xb rfl rfl rfl rfl ?_; refine QV rfl rfl rfl (by with_reducible first | exact fC0 | exact fC1 | exact fR0 | exact fR1) rfl ?_; refine QJ rfl rfl rfl rfl rfl (by with_reducible first | exact lBytes | exact lInt | exact lInts) rfl ?_; refine QJ rfl rfl rfl rfl rfl (by with_reducible first | exact lBytes | exact lInt | exact lInts) rfl ?_; refine Ql rfl rfl rfl (by with_reducible exact sBytes) (by omega) (bytes_at (by omega) (by omega)) rfl ?_; refine XQ rfl rfl rfl (by with_reducible exact lU8) rfl ?_)
      have hx := hb.at p
      generalize he : bs.getD p 0 = x at hx
      refine Yx (q := x) rfl rfl (by with_reducible exact uU8) (by with_reducible exact uInt) (by rw [Int.toNat_natCast, he]; exact Yy (by omega) (by omega)) rfl ?_
      (refine Qv rfl rfl rfl ?_; refine Qj (hK _ _ (Qz (Qw ?_))); clear hK K; refine Qq (fun K hK => ?_); refine Qx rfl rfl rfl ?_; refine Xb rfl rfl rfl rfl ?_; refine QV rfl rfl rfl (by with_reducible first | exact fC0 | exact fC1 | exact fR0 | exact fR1) rfl ?_; refine QJ rfl rfl rfl rfl rfl (by with_reducible first | exact lBytes | exact lInt | exact lInts) rfl ?_; refine Qk (iadd (by omega) (by omega)) rfl rfl rfl rfl ?_; refine Xb rfl rfl rfl rfl ?_; refine QV rfl rfl rfl (by with_reducible first | exact fC0 | exact fC1 | exact fR0 | exact fR1) rfl ?_; refine X6 rfl rfl rfl rfl rfl (by with_reducible exact zInt) (by simp [Ent.cs]) ?_; refine Qj (hK _ _ (Qz (Qw (Qw ?_)))); clear hK K; refine Qq (fun K hK => ?_); refine Qx rfl rfl rfl ?_; refine Qk igtr rfl rfl rfl rfl ?_; refine Qj (hK _ _ (Qz ?_)); clear hK K)
      refine Q2 rfl (fun h' => ?_) (fun h' => ?_)
      · (refine Qw (Qq fun K hK => ?_); refine Qx rfl rfl rfl ?_; refine Qk (imul (by omega) (by omega)) rfl rfl rfl rfl ?_; refine Qx rfl rfl rfl ?_)
        refine Xw goNext (Next_ok bs (p + 1) 256 (by decide) (by decide) hb) rfl rfl rfl rfl rfl (fun q hq => ?_)
        obtain ⟨y, p1⟩ := q
        dsimp only at hq ⊢
        (refine Qk (iadd (by omega) (by omega)) rfl rfl rfl rfl ?_; refine Qx rfl rfl rfl ?_; refine Qk (irem (by omega) (by omega)) rfl rfl rfl rfl ?_; refine Qv rfl rfl rfl ?_; refine Qj (hK _ _ (Qz (Q0 (QY ?_)))); clear hK K)
        refine Yz ((256 * x + y) % n, p1) [_] rfl (Qu rfl QQ) rfl rfl ⟨Int.emod_nonneg _ (by omega), Int.emod_lt_of_pos _ (by omega)⟩
      · exact absurd h3 h'
theorem goBool : InGo Tryz.prog 58 := InGo.of Tryz.func58 rfl (by decide)
theorem BoolB_ok (bs : List Int) (p : Nat) (n : Int) (h1 : 1 ≤ n) (h2 : n ≤ 1000000) (hb : Bytes bs) :
    OkB Tryz.prog 58 78 (codes bs p) [intC n] (fun _ : Bool × Nat => True) (fun q => boolC q.1) (fun q => codes bs q.2) := by
  refine OkB.enter Tryz.func58 rfl _ Tryz.ntmps58 rfl ?_
  intro S w g
  (refine Qw (Qq fun K hK => ?_); refine Qv rfl rfl rfl ?_; refine Qj (hK _ _ (Qz (Qw ?_))); clear hK K; refine Qq (fun K hK => ?_); refine Qx rfl rfl rfl ?_; refine Qx rfl rfl rfl ?_)
  refine Xw goNext (Zd bs p n h1 h2 hb) rfl rfl rfl rfl rfl (fun q hq => ?_)
  obtain ⟨x, p1⟩ := q
  dsimp only at hq ⊢
  (refine Qx rfl rfl rfl ?_; refine Qk (isub (by omega) (by omega)) rfl rfl rfl rfl ?_; refine Qk ieql rfl rfl rfl rfl ?_; refine Qv rfl rfl rfl ?_; refine Qj (hK _ _ (Qz (Q0 ?_))); clear hK K)
  refine Yz (decide (x = n - 1), p1) [_] rfl (Qu rfl QQ) rfl rfl trivial
theorem goInt : InGo Tryz.prog 106 := InGo.of Tryz.func106 rfl (by decide)
abbrev adrF (x : Fin 4294967296) : CT := adrC (x.val : Int)
theorem wrap_toFin {n : Int} (h1 : 0 ≤ n) (h2 : n < 4294967296) : IntKind.u32.wrap n = (((⟨n.toNat, by omega⟩ : Fin 4294967296).val : Nat) : Int) := by
  rw [wrap_u32 h1 h2]
  show n = ((n.toNat : Nat) : Int)
  omega
theorem goDProto : InGo Tryz.prog 141 := InGo.of Tryz.func141 rfl (by decide)
set_option maxHeartbeats 4000000 in
theorem DProto_ok (bs : List Int) (p : Nat) (hb : Bytes bs) :
    OkB Tryz.prog 141 78 (codes bs p) [] (fun q : Int × Nat => q.1 = 17 ∨ q.1 = 1 ∨ q.1 = 6) (fun q => intC q.1) (fun q => codes bs q.2) := by
  refine OkB.enter Tryz.func141 rfl _ Tryz.ntmps141 rfl ?_
  intro S w g
  (refine Qw (Qq fun K hK => ?_); refine Qv rfl rfl rfl ?_; refine Qj (hK _ _ (Qz (Qw ?_))); clear hK K; refine Qq (fun K hK => ?_); refine Qx rfl rfl rfl ?_)
  refine Ops.litI [17, 1, 6] rfl rfl (by with_reducible exact sInts) rfl ⟨rfl, rfl, rfl, rfl, rfl, rfl, trivial⟩ (by decide) rfl ?_
  refine Xw goPick (Pick_ok bs p [17, 1, 6] (by decide) (by decide) hb) rfl rfl rfl rfl rfl (fun q hq => ?_)
  obtain ⟨k, p1⟩ := q
  dsimp only at hq ⊢
  (refine Qv rfl rfl rfl ?_; refine Qj (hK _ _ (Qz (Q0 ?_))); clear hK K)
  refine Yz (k, p1) [_] rfl (Qu rfl QQ) rfl rfl (by simpa using hq)
theorem Zl : LdN Tryz.prog 86 3 := LdN.of _ Tryz.underlying86 rfl (by kernel_rfl)
theorem szTrace : (Tryz.prog.info? 86).map (·.size) = some 3 := by kernel_rfl
theorem zvTrace : (Tryz.prog.info? 86).map (·.zero) = some (some (.agg #[.int .i64 0, .int .u32 0, .int .i64 0])) := by kernel_rfl
theorem bTrace : bInfo Tryz.prog 86 = some (.agg #[.int .i64 0, .int .u32 0, .int .i64 0], [(0, some 1), (1, some 1), (2, some 1)]) := by kernel_rfl
theorem fR0t : fldInfo Tryz.prog 86 0 = some (0, some 1) := by kernel_rfl
theorem fR1t : fldInfo Tryz.prog 86 1 = some (1, some 1) := by kernel_rfl
theorem fR2t : fldInfo Tryz.prog 86 2 = some (2, some 1) := by kernel_rfl
structure Tr where
  va : Int
  ds : Fin 4294967296
  pr : Int
  p : Nat
abbrev trCs (e : Tr) : List CT := [intC e.va, adrF e.ds, intC e.pr]
theorem goTrace : InGo Tryz.prog 107 := InGo.of Tryz.func107 rfl (by decide)
set_option maxHeartbeats 4000000 in
theorem Trace_ok (bs : List Int) (p : Nat) (hb : Bytes bs) : OkB Tryz.prog 107 78 (codes bs p) [] (fun q : Tr => (0 ≤ q.va ∧ q.va < 2) ∧ (q.ds ≠ 0 ∧ (q.pr = 17 ∨ q.pr = 1 ∨ q.pr = 6))) (fun q => .fr (aggT (trCs q))) (fun q => codes bs q.p) := by
  refine OkB.enter Tryz.func107 rfl _ Tryz.ntmps107 rfl ?_
  intro S w g
  (refine Qw (Qq fun K hK => ?_))
  refine Qg 1 rfl rfl (by with_reducible exact zvTrace) rfl rfl rfl ?_
  (refine Qj (hK _ _ (Qz (Qw ?_))); clear hK K; refine Qq (fun K hK => ?_); refine Qx rfl rfl rfl ?_)
  refine Xw goNext (Next_ok bs p 2 (by decide) (by decide) hb) rfl rfl rfl rfl rfl (fun q hq => ?_)
  obtain ⟨k, p1⟩ := q
  dsimp only at hq ⊢
  (refine Qx rfl rfl rfl ?_)
  refine Xw goNext (Next_ok bs p1 3 (by decide) (by decide) hb) rfl rfl rfl rfl rfl (fun q hq2 => ?_)
  obtain ⟨x, p2⟩ := q
  dsimp only at hq2 ⊢
  (refine Qk (iadd (by omega) (by omega)) rfl rfl rfl rfl ?_)
  refine Yx rfl rfl (by with_reducible exact uInt) (by with_reducible exact uAddr) (wrap_toFin (n := 167774464 + x) (by omega) (by omega)) rfl ?_
  have hdd : (⟨(167774464 + x).toNat, by omega⟩ : Fin 4294967296) ≠ 0 := fun h => by
    have := congrArg _root_.Fin.val h
    have h0 : ((0 : Fin 4294967296).val) = 0 := rfl
    rw [h0] at this
    dsimp only at this
    omega
  generalize (⟨(167774464 + x).toNat, _⟩ : Fin 4294967296) = dd at hdd ⊢
  (refine Qx rfl rfl rfl ?_)
  refine Xw goDProto (DProto_ok bs p2 hb) rfl rfl rfl rfl rfl (fun q hq3 => ?_)
  obtain ⟨pr, p3⟩ := q
  dsimp only
  skip
  refine Qs rfl (by with_reducible exact bTrace) rfl (.one rfl rfl rfl rfl (.one rfl rfl rfl rfl (.one rfl rfl rfl rfl .nil))) rfl ?_
  refine Qc 3 rfl rfl rfl rfl rfl (by with_reducible exact szTrace) rfl rfl ?_
  (refine Qj (hK _ _ (Qz (Q0 ?_))); clear hK K)
  refine Fin.endB ⟨k, dd, pr, p3⟩ [_] rfl (Qi (n := 3) rfl rfl (by with_reducible exact Zl) rfl QQ) rfl rfl ⟨⟨hq.1, hq.2⟩, hdd, hq3⟩
end Go.Proofs.YtlkdkbdgnjcopaaGreat
namespace Go.Limbs
theorem row_at {α : Type} (D l : List α) (q : Nat) (z : α) (h : D.length ≤ q) : (D ++ l.drop D.length).getD q z = l.getD q z := by
  rw [List.getD_eq_getElem?_getD, List.getElem?_append_right h, List.getElem?_drop, List.getD_eq_getElem?_getD, show D.length + (q - D.length) = q by omega]
theorem row_set {α : Type} (D l : List α) (x : α) (h : D.length < l.length) : (D ++ l.drop D.length).set D.length x = (D ++ [x]) ++ l.drop (D ++ [x]).length := by
  rw [List.set_append_right _ _ (Nat.le_refl _), Nat.sub_self, List.length_append, List.length_singleton, List.drop_eq_getElem_cons h, List.set_cons_zero, List.append_assoc]; rfl
end Go.Limbs
namespace Go.Proofs.YtlkdkbdgnjcopaaGreat
open Go.Own Go.Limbs
attribute [local irreducible] St Ops Go.Own.Fin Ok OkB OkN OkT OkL OkF
theorem rss_take (l : List Rs) (i : Nat) : (rss l).take (i * 17) = rss (l.take i) := el_take rs_len l i
section
variable {X : Ctx} {L : AL} {B : BL} {ops : Array Oper} {K : Act → World → Prop} {r : Pl} {k : Kd}
  {x y z : Operand} {d : Nat} {t t2 t' : TypeId} {pos : String} {af : Array Edge} {g : Option (Nat × Bool)}
theorem neRs' (p q : Rs) (hg : gd ops L g = some true) (hx : ev L x = some (.ct (rsC p))) (hy : ev L y = some (.ct (rsC q))) (hP : X.P = Tryz.prog) (hn : Nat.blt d X.n = true)
    (h : Ops X ops r ((d, .ct (boolC (decide (¬ p = q)))) :: L) B K) : Ops X ops (.cons ⟨some d, .binOp .neq 35 x y t2, t', pos, af, g⟩ k r) L B K :=
  neRs p q hg hx hy hP hn (by rw [← decide_not]; exact h)
end
theorem goCompact_Rs : InGo Tryz.prog 90 := InGo.of Tryz.func90 (by kernel_rfl) (by kernel_rfl)
set_option maxHeartbeats 4000000 in
theorem Compact_Rs_ok (l : List Rs) (hl : l.length ≤ 100000) : OkT Tryz.prog 90 35 17 (rss l) [] (rss (dd l)) := by
  refine OkT.enter Tryz.func90 rfl _ Tryz.ntmps90 rfl ?_
  intro S w h0
  (refine Qw (Qq fun K hK => ?_); refine Qv rfl rfl rfl ?_; refine Qj (hK _ _ (Qz (Qw (Qw ?_)))); clear hK K; refine Qq (fun K hK => ?_); refine Qx rfl rfl rfl ?_)
  refine Yj l.length rfl rfl rfl (by decide) (Xt l) (by with_reducible exact sRes.und) rfl ?_
  (refine Qk ilss rfl rfl rfl rfl ?_; refine Qj (hK _ _ (Qz ?_)); clear hK K)
  refine Q2 rfl (fun h => ?_) (fun h => ?_)
  · rw [dd_small (l := l) (by omega)]
    (refine Qw (Qq fun K hK => ?_); refine Qx rfl rfl rfl ?_; refine Qv rfl rfl rfl ?_; refine Qj (hK _ _ (Qz (Q0 (QY ?_)))); clear hK K)
    refine YV rfl rfl rfl
  (refine Q1 (Qz (Qw (Qw (Qq fun K hK => ?_)))); refine Qv rfl rfl rfl ?_; refine Qj (hK _ _ (Qz (Q4 ?_))); clear hK K)
  refine Xj (α := Nat) (fun i => i + 1 ≤ l.length ∧ dd (l.take (i + 1)) = l.take (i + 1))
    (fun i => [(0, .own 0), (3, .ct (intC (i + 1)))]) (fun _ => [(0, .row 35 17 (rss l))]) (fun i => l.length - i) 0 ⟨by omega, dd_small (by rw [List.length_take]; omega)⟩ (by exact QX rfl ⟨rfl, rfl, trivial⟩) ?_
  rintro i ⟨hi, hd⟩
  try dsimp only at hi hd
  try dsimp only
  (refine Qw (Qw (Qq fun K hK => ?_)); refine Qx rfl rfl rfl ?_; refine Qx rfl rfl rfl ?_)
  refine Yj l.length rfl rfl rfl (by decide) (Xt l) (by with_reducible exact sRes.und) rfl ?_
  (refine Qk ilss rfl rfl rfl rfl ?_; refine Qj (hK _ _ (Qz ?_)); clear hK K)
  refine Q2 rfl (fun h => ?_) (fun h => ?_)
  rotate_left
  · have e : dd l = l := by
      have := hd
      rw [List.take_of_length_le (by omega)] at this
      exact this
    rw [e]
    (refine Qp (Qz (Qw (Qq fun K hK => ?_))); refine Qx rfl rfl rfl ?_; refine Qv rfl rfl rfl ?_; refine Qj (hK _ _ (Qz (Q0 ?_))); clear hK K)
    refine YV rfl rfl rfl
  (refine Q1 (Qz (Qw (Q4 (Qw ?_)))))
  refine Xu (by with_reducible exact mixed) 10 (.p 0 (.p 1 (.p 2 (.p 4 (.p 5 (.p 6 (.p 7 (.f 3 (.f 8 (.p 9 .done)))))))))) (by kernel_rfl) (fun K hK => ?_)
  (refine Qx rfl rfl rfl ?_; refine Qx rfl rfl rfl ?_)
  refine Zv l.length rfl rfl rfl (Xt l) rfl (by with_reducible exact sRes) (by omega) (by omega) rfl ?_
  (refine Qx rfl rfl rfl ?_; refine Qx rfl rfl rfl ?_; refine Qk (isub (by omega) (by omega)) rfl rfl rfl rfl ?_)
  refine Zv l.length rfl rfl rfl (Xt l) rfl (by with_reducible exact sRes) (by omega) (by omega) rfl ?_
  skip
  refine ldE rsCs rs0 rs_len rfl rfl rfl rfl rfl (by omega) (by with_reducible exact lRes) rfl ?_
  refine ldE rsCs rs0 rs_len rfl rfl rfl rfl rfl (by omega) (by with_reducible exact lRes) rfl ?_
  rw [show ((i : Int) + 1).toNat = i + 1 by omega, show ((i : Int) + 1 - 1).toNat = i by omega]
  generalize hx : l.getD i rs0 = x
  generalize hy : l.getD (i + 1) rs0 = y
  refine eqRs y x rfl rfl rfl rfl rfl ?_
  (refine Qj (hK _ _ (Qz ?_)); clear hK K)
  have hs := dd_step (l := l) (z := rs0) (p := i + 1) (by omega) (by omega)
  rw [show i + 1 - 1 = i by omega, hx, hy] at hs
  refine Q2 rfl (fun he => ?_) (fun he => ?_)
  rotate_left
  · (refine Q1 (Qz (Qq fun K hK => ?_)); refine Qx rfl rfl rfl ?_; refine Qk (iadd (by omega) (by omega)) rfl rfl rfl rfl ?_; refine Qv rfl rfl rfl ?_; refine Qj (hK _ _ (Q3 ?_)); clear hK K)
    refine Q9 (i + 1) (by omega) ⟨by omega, ?_⟩ (by exact QX rfl ⟨rfl, by simp only [Int.natCast_add]; rfl, trivial⟩)
    rw [hs, if_neg he, hd, List.take_add_one (i := i + 1), List.getElem?_eq_getElem (by omega), ← hy, List.getD_eq_getElem?_getD, List.getElem?_eq_getElem (by omega)]; rfl
  rw [if_pos he, hd] at hs
  refine St.nameS 0 0 l.length rfl rfl (Xt l) (by omega) (by decide) (fun gb c hc1 hc2 => ?_)
  (refine Qw (Qq fun K hK => ?_); refine Qx rfl rfl rfl ?_; refine Qx rfl rfl rfl ?_)
  refine Ops.cutKl (i + 1) rfl rfl rfl (by omega) sRes (by omega) rfl ?_
  rw [if_neg (show ¬ c = i + 1 by omega), Nat.zero_add]
  (refine Qv rfl rfl rfl ?_; refine Qj (hK _ _ (Qz (Qw (Qw ?_)))); clear hK K; refine Qq (fun K hK => ?_); refine Qv rfl rfl rfl ?_; refine Qj (hK _ _ (Qz (Q4 ?_))); clear hK K)
  refine Xj (α := Nat) (fun j => i + 2 + j ≤ l.length ∧ (dd (l.take (i + 2 + j))).length < i + 2 + j)
    (fun j => [(0, .ct (.ex (kh gb 0 l.length c))), (3, .ct (intC (dd (l.take (i + 2 + j))).length)), (4, .ct (.ex (kh gb ((i + 1) * 17) (l.length - (i + 1)) (c - (i + 1))))), (5, .ct (intC (j + 1)))])
    (fun j => [(0, .rowx (kh gb 0 l.length c) 35 17 (rss (dd (l.take (i + 2 + j)) ++ l.drop (dd (l.take (i + 2 + j))).length)))]) (fun j => l.length - j) 0
    ⟨by omega, by rw [Nat.add_zero, hs, List.length_take]; omega⟩ (by
      rw [Nat.add_zero, hs, List.length_take, Nat.min_eq_left hi, List.take_append_drop]
      exact QX rfl ⟨rfl, rfl, rfl, rfl, trivial⟩) ?_
  clear hs
  rintro j ⟨hj, hD⟩
  try dsimp only at hj hD
  try dsimp only
  have hs := dd_step (l := l) (z := rs0) (p := i + 2 + j) (by omega)
  generalize hDD : dd (l.take (i + 2 + j)) = D at hs hD ⊢
  have hrl : (D ++ l.drop D.length).length = l.length := by rw [List.length_append, List.length_drop]; omega
  have hat : ∀ q, D.length ≤ q → (D ++ l.drop D.length).getD q rs0 = l.getD q rs0 := fun q hq => row_at D l q rs0 hq
  (refine Qw (Qw (Qq fun K hK => ?_)); refine Qx rfl rfl rfl ?_; refine Qx rfl rfl rfl ?_)
  refine Ops.lenKv rfl rfl sRes.und rfl ?_
  (refine Qk ilss rfl rfl rfl rfl ?_; refine Qj (hK _ _ (Qz ?_)); clear hK K)
  refine Q2 rfl (fun h2 => ?_) (fun h2 => ?_)
  · (refine Q1 (Qz (Qw (Q4 (Qw ?_)))))
    refine Xu (by with_reducible exact mixed) 10 (.p 0 (.p 1 (.p 2 (.p 4 (.p 5 (.p 6 (.p 7 (.f 3 (.f 8 (.p 9 .done)))))))))) (by kernel_rfl) (fun K hK => ?_)
    (refine Qx rfl rfl rfl ?_; refine Qx rfl rfl rfl ?_)
    refine Z0 0 (i + 1) rfl rfl rfl rfl sRes (by omega) (by omega) rfl ?_
    (refine Qx rfl rfl rfl ?_; refine Qx rfl rfl rfl ?_; refine Qk (isub (by omega) (by omega)) rfl rfl rfl rfl ?_)
    refine Z0 0 (i + 1) rfl rfl rfl rfl sRes (by omega) (by omega) rfl ?_
    skip
    refine ldE rsCs rs0 rs_len rfl rfl rfl rfl rfl (by omega) (by with_reducible exact lRes) rfl ?_
    refine ldE rsCs rs0 rs_len rfl rfl rfl rfl rfl (by omega) (by with_reducible exact lRes) rfl ?_
    rw [show i + 1 + ((j : Int) + 1).toNat = i + 2 + j by omega, show i + 1 + ((j : Int) + 1 - 1).toNat = i + 2 + j - 1 by omega, hat _ (by omega), hat _ (by omega)]
    have hs := hs (by omega)
    generalize hx2 : l.getD (i + 2 + j - 1) rs0 = x2 at hs ⊢
    generalize hy2 : l.getD (i + 2 + j) rs0 = y2 at hs ⊢
    refine neRs' y2 x2 rfl rfl rfl rfl rfl ?_
    (refine Qj (hK _ _ (Qz ?_)); clear hK K)
    refine Q2 rfl (fun he2 => ?_) (fun he2 => ?_)
    · rw [if_neg he2] at hs
      (refine Qw (Qq fun K hK => ?_); refine Qx rfl rfl rfl ?_; refine Qx rfl rfl rfl ?_; refine Qx rfl rfl rfl ?_; refine Qx rfl rfl rfl ?_)
      refine Z0 0 (i + 1) rfl rfl rfl rfl sRes (by omega) (by omega) rfl ?_
      refine ldE rsCs rs0 rs_len rfl rfl rfl rfl rfl (by omega) (by with_reducible exact lRes) rfl ?_
      rw [show i + 1 + ((j : Int) + 1).toNat = i + 2 + j by omega, hat _ (by omega), hy2]
      refine Z0 0 0 rfl rfl rfl rfl sRes (by omega) (by omega) rfl ?_
      rw [Nat.zero_add, show ((D.length : Int)).toNat = D.length by omega]
      refine stEX rsCs y2 rs_len rfl rfl rfl rfl rfl (by omega) (by with_reducible exact szRes) ?_
      rw [row_set D l y2 (by omega)]
      (refine Qj (hK _ _ (Qz ?_)); clear hK K; refine Qq (fun K hK => ?_); refine Qx rfl rfl rfl ?_; refine Qk (iadd (by omega) (by omega)) rfl rfl rfl rfl ?_; refine Qv rfl rfl rfl ?_; refine Qj (hK _ _ (Qz ?_)); clear hK K; refine Qq (fun K hK => ?_); refine Qx rfl rfl rfl ?_; refine Qk (iadd (by omega) (by omega)) rfl rfl rfl rfl ?_; refine Qv rfl rfl rfl ?_; refine Qj (hK _ _ (Q3 ?_)); clear hK K)
      refine Q9 (j + 1) (by omega) ⟨by omega, by show (dd (l.take (i + 2 + j + 1))).length < _; rw [hs, List.length_append]; show D.length + 1 < _; omega⟩ ?_
      rw [show i + 2 + (j + 1) = i + 2 + j + 1 by omega, hs, List.length_append]
      exact QX rfl ⟨rfl, by simp only [Int.natCast_add]; rfl, rfl, by simp only [Int.natCast_add]; rfl, trivial⟩
    · rw [if_pos (Decidable.not_not.1 he2)] at hs
      (refine Q1 (Qz (Qq fun K hK => ?_)); refine Qx rfl rfl rfl ?_; refine Qk (iadd (by omega) (by omega)) rfl rfl rfl rfl ?_; refine Qv rfl rfl rfl ?_; refine Qj (hK _ _ (Q3 ?_)); clear hK K)
      refine Q9 (j + 1) (by omega) ⟨by omega, by show (dd (l.take (i + 2 + j + 1))).length < _; rw [hs]; omega⟩ ?_
      rw [show i + 2 + (j + 1) = i + 2 + j + 1 by omega, hs]
      exact QX rfl ⟨rfl, rfl, rfl, by simp only [Int.natCast_add]; rfl, trivial⟩
  · have e : dd l = D := by rw [← hDD, List.take_of_length_le (by omega)]
    rw [e]
    (refine Qp (Qz (Qw (Qq fun K hK => ?_))); refine Qx rfl rfl rfl ?_; refine Qx rfl rfl rfl ?_)
    refine Ops.cutKl D.length rfl rfl rfl rfl sRes (by omega) rfl ?_
    skip
    refine Ops.cutOff 0 D.length rfl (by show (rss _).length = _; rw [Xt, hrl]) (by decide) (by omega) (by show (rss _).take _ = rss D; rw [rss_take, List.take_left]) ?_
    refine Ops.clearK 0 rfl rfl (by split <;> omega) rfl (Xt D) (by omega) sRes (by decide) ?_
    (refine Qj (hK _ _ (Qz (Qw ?_))); clear hK K; refine Qq (fun K hK => ?_); refine Qx rfl rfl rfl ?_; refine Qx rfl rfl rfl ?_)
    refine Ops.cutKh D.length rfl rfl rfl rfl sRes (by omega) rfl ?_
    (refine Qv rfl rfl rfl ?_; refine Qj (hK _ _ (Qz (Q0 (Q8 (QY (QY (Q8 (QY ?_)))))))); clear hK K)
    refine Fin.link 2 0 rfl rfl ?_
    refine YV rfl rfl rfl
end Go.Proofs.YtlkdkbdgnjcopaaGreat
namespace Go.Proofs.YtlkdkbdgnjcopaaGreat
open Go.Shelf
def laySortR_ren : Go.Shelf.Ren := ⟨fun | 6 => 88 | 15 => 118 | 14 => 126 | 28 => 155 | 29 => 156 | 20 => 161 | 21 => 162 | 22 => 163 | 23 => 164 | 24 => 165 | 25 => 166 | 26 => 167 | 27 => 168 | 46 => 194 | 47 => 182 | 48 => 183 | 49 => 195 | 50 => 196 | 57 => 202 | n => n, fun | 22 => 29 | 24 => 35 | 25 => 143 | 3 => 3 | 39 => 172 | 0 => 0 | 53 => 26 | 55 => 153 | 4 => 4 | 46 => 201 | 45 => 200 | 50 => 205 | 5 => 5 | 9 => 9 | 66 => 227 | 70 => 231 | 76 => 240 | 77 => 241 | n => n, fun | n => n⟩
theorem laySortR : Go.Proofs.SlLaysF0.n6 Tryz.prog laySortR_ren := {
  mixed := by kernel_rfl
  f6 := ⟨Tryz.f88.name, by decide, Tryz.func88.trans (congrArg some (by kernel_rfl))⟩
  f14 := ⟨Tryz.f126.name, by decide, Tryz.func126.trans (congrArg some (by kernel_rfl))⟩
  f15 := Tryz.func118.trans (congrArg some (by kernel_rfl))
  f20 := ⟨Tryz.f161.name, by decide, Tryz.func161.trans (congrArg some (by kernel_rfl))⟩
  f21 := ⟨Tryz.f162.name, by decide, Tryz.func162.trans (congrArg some (by kernel_rfl))⟩
  f22 := ⟨Tryz.f163.name, by decide, Tryz.func163.trans (congrArg some (by kernel_rfl))⟩
  f23 := ⟨Tryz.f164.name, by decide, Tryz.func164.trans (congrArg some (by kernel_rfl))⟩
  f24 := ⟨Tryz.f165.name, by decide, Tryz.func165.trans (congrArg some (by kernel_rfl))⟩
  f25 := ⟨Tryz.f166.name, by decide, Tryz.func166.trans (congrArg some (by kernel_rfl))⟩
  f26 := ⟨Tryz.f167.name, by decide, Tryz.func167.trans (congrArg some (by kernel_rfl))⟩
  f27 := ⟨Tryz.f168.name, by decide, Tryz.func168.trans (congrArg some (by kernel_rfl))⟩
  f28 := Tryz.func155.trans (congrArg some (by kernel_rfl))
  f29 := Tryz.func156.trans (congrArg some (by kernel_rfl))
  f46 := ⟨Tryz.f194.name, by decide, Tryz.func194.trans (congrArg some (by kernel_rfl))⟩
  f47 := Tryz.func182.trans (congrArg some (by kernel_rfl))
  f48 := Tryz.func183.trans (congrArg some (by kernel_rfl))
  f49 := ⟨Tryz.f195.name, by decide, Tryz.func195.trans (congrArg some (by kernel_rfl))⟩
  f50 := ⟨Tryz.f196.name, by decide, Tryz.func196.trans (congrArg some (by kernel_rfl))⟩
  f57 := ⟨Tryz.f202.name, by decide, Tryz.func202.trans (congrArg some (by kernel_rfl))⟩
  t0 := Tryz.underlying0
  a0 := Tryz.isAgg0
  z0 := Tryz.sizeOf0
  v0 := Tryz.zeroValue0
  t3 := Tryz.underlying3
  a3 := Tryz.isAgg3
  z3 := Tryz.sizeOf3
  v3 := Tryz.zeroValue3
  t4 := Tryz.underlying4
  a4 := Tryz.isAgg4
  z4 := Tryz.sizeOf4
  v4 := Tryz.zeroValue4
  t5 := Tryz.underlying5
  a5 := Tryz.isAgg5
  z5 := Tryz.sizeOf5
  v5 := Tryz.zeroValue5
  t9 := Tryz.underlying9
  a9 := Tryz.isAgg9
  z9 := Tryz.sizeOf9
  v9 := Tryz.zeroValue9
  t22 := Tryz.underlying29
  a22 := Tryz.isAgg29
  z22 := Tryz.sizeOf29
  v22 := Tryz.zeroValue29
  t25 := Tryz.underlying143
  a25 := Tryz.isAgg143
  z25 := Tryz.sizeOf143
  v25 := Tryz.zeroValue143
  t39 := Tryz.underlying172
  a39 := Tryz.isAgg172
  z39 := Tryz.sizeOf172
  v39 := Tryz.zeroValue172
  t45 := Tryz.underlying200
  a45 := Tryz.isAgg200
  z45 := Tryz.sizeOf200
  v45 := Tryz.zeroValue200
  t46 := Tryz.underlying201
  a46 := Tryz.isAgg201
  z46 := Tryz.sizeOf201
  v46 := Tryz.zeroValue201
  t50 := Tryz.underlying205
  a50 := Tryz.isAgg205
  z50 := Tryz.sizeOf205
  v50 := Tryz.zeroValue205
  t53 := Tryz.underlying26
  a53 := Tryz.isAgg26
  z53 := Tryz.sizeOf26
  v53 := Tryz.zeroValue26
  t55 := Tryz.underlying153
  a55 := Tryz.isAgg153
  z55 := Tryz.sizeOf153
  v55 := Tryz.zeroValue153
  t66 := Tryz.underlying227
  a66 := Tryz.isAgg227
  z66 := Tryz.sizeOf227
  v66 := Tryz.zeroValue227
  t70 := Tryz.underlying231
  a70 := Tryz.isAgg231
  z70 := Tryz.sizeOf231
  v70 := Tryz.zeroValue231
  t76 := Tryz.underlying240
  a76 := Tryz.isAgg240
  z76 := Tryz.sizeOf240
  v76 := Tryz.zeroValue240
  t77 := Tryz.underlying241
  a77 := Tryz.isAgg241
  z77 := Tryz.sizeOf241
  v77 := Tryz.zeroValue241 }
end Go.Proofs.YtlkdkbdgnjcopaaGreat
namespace Go.Proofs.YtlkdkbdgnjcopaaGreat
open Go.Own Go.Limbs Go.Shelf
open Go.Sort hiding Ok
attribute [local irreducible] St Ops Go.Own.Fin Ok OkB OkN OkT OkL OkF
theorem ordR : Ord cmpR := ⟨fun _ _ => cmpL_anti _ _, fun _ _ h => rsO_inj (cmpL_eq rfl h), fun x y z h1 h2 => cmpL_trans (xs := rsO x) (ys := rsO y) (zs := rsO z) rfl rfl h1 h2⟩
abbrev cmpRV : CT := .ex (.func (.func 89) #[] #[])
theorem goSortR : InGo Tryz.prog 88 := InGo.of Tryz.func88 rfl (by decide)
theorem SortR_ok (l : List Rs) (hl : l.length < 4611686018427387904) : OkL Tryz.prog 88 35 17 (rss l) [cmpRV] unitC (rss (l.mergeSort fun x y => !(ltOf cmpR) y x)) :=
  sortFunc_L laySortR (enc := rsV) (k := 17) (cf := cmpR) (g := 89) (by decide) Tryz.isAgg35 Tryz.sizeOf35 (fun _ => rfl) (fun x v hv => by
    simp only [rsV, List.mem_cons, List.not_mem_nil, or_false] at hv
    rcases hv with rfl | rfl | rfl | rfl | rfl | rfl | rfl | rfl | rfl | rfl | rfl | rfl | rfl | rfl | rfl | rfl | rfl <;> rfl)
    ordR.swo ordR.tot goCmpR cmpR_ok 35 l hl
theorem Zi (l : List Rs) (r : Rs) : rss (l ++ [r]) = rss l ++ rsCs r := by simp [rss]
theorem YQ {α : Type} (p : α → Bool) {l : List α} {z : α} {i : Nat} (h : i < l.length) : (l.take (i + 1)).filter p = if p (l.getD i z) = true then (l.take i).filter p ++ [l.getD i z] else (l.take i).filter p := by
  have e : l.take (i + 1) = l.take i ++ [l.getD i z] := by
    rw [List.take_add_one, List.getElem?_eq_getElem h, List.getD_eq_getElem?_getD, List.getElem?_eq_getElem h]; rfl
  rw [e, List.filter_append]
  by_cases hp : p (l.getD i z) = true
  · rw [if_pos hp, List.filter_cons_of_pos hp]; rfl
  · rw [if_neg hp, List.filter_cons_of_neg hp]; simp
theorem filter_len {α : Type} (p : α → Bool) (l : List α) (i : Nat) : ((l.take i).filter p).length ≤ i := Nat.le_trans (List.length_filter_le _ _) (by rw [List.length_take]; omega)
theorem goOrder : InGo Tryz.prog 45 := InGo.of Tryz.func45 rfl (by decide)
set_option maxHeartbeats 4000000 in
theorem Order_ok (l : List Rs) (hl : l.length ≤ 10000) : OkF Tryz.prog 45 [rssC l] 35 17 (rss (sd cmpR (l.filter okR))) := by
  refine OkF.enter Tryz.func45 rfl _ Tryz.ntmps45 rfl ?_
  intro S w
  (refine Qw (Qq fun K hK => ?_); refine Qv rfl rfl rfl ?_; refine Qj (hK _ _ (Qz (Qw ?_))); clear hK K; refine Qq (fun K hK => ?_); refine Qv rfl rfl rfl ?_; refine Qj (hK _ _ (Qz (Qw (Qw ?_)))); clear hK K; refine Qq (fun K hK => ?_); refine Qx rfl rfl rfl ?_; refine Qd rfl rfl (by with_reducible exact sRes.und) (List.length_map ..) rfl ?_; refine Qx rfl rfl rfl ?_; refine Qj (hK _ _ (Qz (Q4 ?_))); clear hK K)
  refine Xe 3 0 35 17 rfl rfl rfl ?_
  refine Xj (α := Nat) (fun i => i ≤ l.length)
    (fun i => [(3, .own 0), (6, .ct (rssC l)), (7, .ct (intC l.length)), (8, .ct (intC i))]) (fun i => [(0, .row 35 17 (rss ((l.take i).filter okR)))]) (fun i => l.length - i) 0 (Nat.zero_le _) (by exact QX rfl ⟨rfl, rfl, rfl, rfl, trivial⟩) ?_
  intro i hi
  try dsimp only at hi
  try dsimp only
  (refine Qw (Qq fun K hK => ?_); refine Qk ilss rfl rfl rfl rfl ?_; refine Qj (hK _ _ (Qz (Qw ?_))); clear hK K)
  refine Q2 rfl (fun h => ?_) (fun h => ?_)
  · have e2 : (i : Int).toNat = i := Int.toNat_natCast i
    have hs := YQ okR (z := rs0) (i := i) (l := l) (by omega)
    have hfl := filter_len okR l i
    (refine Q1 (Qz (Qw (Q4 (Qw (Qq fun K hK => ?_))))); refine Ql rfl rfl rfl (by with_reducible exact sRes) (by omega) (Z9 (by omega) (by omega)) rfl ?_; refine XW (n := 17) rfl rfl rfl (by with_reducible exact lRes) rfl rfl ?_; refine Qg 1 rfl rfl (by with_reducible exact zvRes) rfl rfl rfl ?_; refine Qc 17 rfl rfl rfl rfl rfl (by with_reducible exact szRes) rfl rfl ?_; refine Qj (hK _ _ (Qz (Qw ?_))); clear hK K; refine Qq (fun K hK => ?_); refine Q7 (n := 17) rfl rfl rfl rfl rfl (by with_reducible exact lRes) rfl ?_)
    rw [e2]
    generalize l.getD i rs0 = c at hs
    skip
    refine Ops.callF goValidR rfl (ValidR_ok c) rfl rfl rfl rfl ?_
    (refine Qj (hK _ _ (Qz ?_)); clear hK K)
    refine Xy rfl (fun h2 => ?_) (fun h2 => ?_)
    · rw [if_pos h2] at hs
      (refine Qq (fun K hK => ?_); refine Qx rfl rfl rfl ?_; refine Q7 (n := 17) rfl rfl rfl rfl rfl (by with_reducible exact lRes) rfl ?_)
      generalize (l.take i).filter okR = out at hs hfl ⊢
      refine X4 (n := 17) rfl rfl (by with_reducible exact sRes) rfl rfl (by decide) rfl ?_
      refine Qt out.length (rss (out ++ [c])) rfl rfl rfl rfl (by with_reducible exact sRes) (Xt out) rfl (by omega) (by omega) (Zi out c) rfl ?_
      (refine Qv rfl rfl rfl ?_; refine Qj (hK _ _ (Qz ?_)); clear hK K; refine Qq (fun K hK => ?_); refine Qk (iadd (by omega) (by omega)) rfl rfl rfl rfl ?_; refine Qx rfl rfl rfl ?_; refine Qj (hK _ _ (Q3 ?_)); clear hK K)
      refine Qn 1 ?_
      refine Q9 (i + 1) (by omega) (by omega) (by rw [hs]; exact QX rfl ⟨rfl, rfl, rfl, by simp only [Int.natCast_add]; rfl, trivial⟩)
    · rw [if_neg (by rw [h2]; decide)] at hs
      (refine Q1 (Qz (Qq fun K hK => ?_)); refine Qk (iadd (by omega) (by omega)) rfl rfl rfl rfl ?_; refine Qx rfl rfl rfl ?_; refine Qj (hK _ _ (Q3 ?_)); clear hK K)
      refine Qn 1 ?_
      refine Q9 (i + 1) (by omega) (by omega) (by rw [hs]; exact QX rfl ⟨rfl, rfl, rfl, by simp only [Int.natCast_add]; rfl, trivial⟩)
  · have hi' : i = l.length := by omega
    rw [hi', List.take_length]
    have hfl : (l.filter okR).length ≤ l.length := List.length_filter_le _ _
    generalize l.filter okR = m at hfl ⊢
    (refine Qp (Qz (Qw (Qq fun K hK => ?_))); refine Qx rfl rfl rfl ?_)
    refine Ops.callL goSortR (SortR_ok m (by omega)) rfl rfl rfl rfl rfl ?_
    (refine Qj (hK _ _ (Qz (Qw ?_))); clear hK K; refine Qq (fun K hK => ?_); refine Qx rfl rfl rfl ?_)
    refine Ops.callT goCompact_Rs (Compact_Rs_ok _ (by rw [List.length_mergeSort]; omega)) rfl rfl rfl rfl rfl ?_
    (refine Qv rfl rfl rfl ?_; refine Qj (hK _ _ (Qz (Q0 ?_))); clear hK K)
    refine Fin.retF rfl rfl rfl rfl
end Go.Proofs.YtlkdkbdgnjcopaaGreat
namespace Go.Proofs.YtlkdkbdgnjcopaaGreat
open Go.Own Go.Limbs
attribute [local irreducible] St Ops Go.Own.Fin Ok OkB OkN OkT OkL OkF
theorem goUsable : InGo Tryz.prog 91 := InGo.of Tryz.func91 rfl (by decide)
theorem Usable_ok (r : Rs) : Ok Tryz.prog 91 [rsC r] (boolC (usR r)) := by
  have hV := ValidR_ok r
  have e0 : usR r = (!r.db && okR r) := rfl
  generalize okR r = b at hV e0
  refine Ok.enter Tryz.func91 rfl _ Tryz.ntmps91 rfl ?_
  intro S w
  (refine Qw (Qq fun K hK => ?_); refine Xk 0 rfl rfl rfl rfl rfl rfl rfl ?_; refine Qv rfl rfl rfl ?_; refine Qj (hK _ _ (Qz (Qw ?_))); clear hK K; refine Qq (fun K hK => ?_); refine QV rfl rfl rfl (by with_reducible first | exact fS0 | exact fS1 | exact fS2 | exact fS3 | exact fS4 | exact fS5 | exact fS6 | exact fS7 | exact fS8 | exact fS9 | exact fS10 | exact fS11 | exact fN0 | exact fN1 | exact fN2 | exact fN3 | exact fN4 | exact fN5) rfl ?_; refine QJ rfl rfl rfl rfl rfl (by with_reducible first | exact lInt | exact Qa | exact Q5 | exact lRess) rfl ?_; refine Qm rfl rfl rfl ?_; refine Qx rfl rfl rfl ?_)
  refine X5 6 (b := !r.db) rfl (fun h => ?_) (fun h => ?_)
  · (refine Q7 (n := 17) rfl rfl rfl rfl rfl (by with_reducible exact lRes) rfl ?_)
    refine QW goValidR hV rfl rfl rfl rfl ?_
    (refine QZ rfl rfl rfl rfl ?_; refine Qv rfl rfl rfl ?_; refine Qj (hK _ _ (Qz (Q0 ?_))); clear hK K)
    refine QK [_] rfl (Qu rfl QQ) (by rw [e0, h, Bool.true_and]; rfl) rfl
  · (refine Qy rfl rfl rfl ?_; refine Qy rfl rfl rfl ?_; refine QU rfl rfl rfl rfl ?_; refine Qv rfl rfl rfl ?_; refine Qj (hK _ _ (Qz (Q0 ?_))); clear hK K)
    refine QK [_] rfl (Qu rfl QQ) (by rw [e0, h, Bool.false_and]; rfl) rfl
theorem goFinal : InGo Tryz.prog 197 := InGo.of Tryz.func197 rfl (by decide)
theorem Final_ok (r : Rs) : Ok Tryz.prog 197 [rsC r] (boolC (fiR r)) := by
  have hU := Usable_ok r
  have e0 : fiR r = (r.an && (decide (r.ki ≠ 1) && usR r)) := rfl
  generalize usR r = b at hU e0
  refine Ok.enter Tryz.func197 rfl _ Tryz.ntmps197 rfl ?_
  intro S w
  (refine Qw (Qq fun K hK => ?_); refine Xk 0 rfl rfl rfl rfl rfl rfl rfl ?_; refine Qv rfl rfl rfl ?_; refine Qj (hK _ _ (Qz (Qw ?_))); clear hK K; refine Qq (fun K hK => ?_); refine QV rfl rfl rfl (by with_reducible first | exact fS0 | exact fS1 | exact fS2 | exact fS3 | exact fS4 | exact fS5 | exact fS6 | exact fS7 | exact fS8 | exact fS9 | exact fS10 | exact fS11 | exact fN0 | exact fN1 | exact fN2 | exact fN3 | exact fN4 | exact fN5) rfl ?_; refine QJ rfl rfl rfl rfl rfl (by with_reducible first | exact lInt | exact Qa | exact Q5 | exact lRess) rfl ?_; refine Qx rfl rfl rfl ?_)
  refine X5 5 (b := r.an) rfl (fun h => ?_) (fun h => ?_)
  · (refine QV rfl rfl rfl (by with_reducible first | exact fS0 | exact fS1 | exact fS2 | exact fS3 | exact fS4 | exact fS5 | exact fS6 | exact fS7 | exact fS8 | exact fS9 | exact fS10 | exact fS11 | exact fN0 | exact fN1 | exact fN2 | exact fN3 | exact fN4 | exact fN5) rfl ?_; refine X7 rfl rfl (by with_reducible first | exact fN0 | exact fN1 | exact fN2 | exact fN3 | exact fN4 | exact fN5) rfl ?_; refine QJ rfl rfl rfl rfl rfl (by with_reducible first | exact lInt | exact Qa | exact Q5 | exact lRess) rfl ?_; refine Qk ineq rfl rfl rfl rfl ?_; refine QZ rfl rfl rfl rfl ?_; refine Qx rfl rfl rfl ?_)
    refine Q6 11 (p := r.ki ≠ 1) rfl (fun h2 => ?_) (fun h2 => ?_)
    · (refine Q7 (n := 17) rfl rfl rfl rfl rfl (by with_reducible exact lRes) rfl ?_)
      refine QW goUsable hU rfl rfl rfl rfl ?_
      (refine QZ rfl rfl rfl rfl ?_; refine Qv rfl rfl rfl ?_; refine Qj (hK _ _ (Qz (Q0 ?_))); clear hK K)
      refine QK [_] rfl (Qu rfl QQ) (by rw [e0, h, decide_eq_true h2, Bool.true_and, Bool.true_and]; rfl) rfl
    · (refine Qy rfl rfl rfl ?_; refine Qy rfl rfl rfl ?_; refine QU rfl rfl rfl rfl ?_; refine Qv rfl rfl rfl ?_; refine Qj (hK _ _ (Qz (Q0 ?_))); clear hK K)
      refine QK [_] rfl (Qu rfl QQ) (by rw [e0, h, decide_eq_false h2, Bool.true_and, Bool.false_and]; rfl) rfl
  · (refine Qy rfl rfl rfl ?_; refine Qy rfl rfl rfl ?_; refine Qy rfl rfl rfl ?_; refine Qy rfl rfl rfl ?_; refine QU rfl rfl rfl rfl ?_; refine Qx rfl rfl rfl ?_; refine Qy rfl rfl rfl ?_; refine Qy rfl rfl rfl ?_; refine QU rfl rfl rfl rfl ?_; refine Qv rfl rfl rfl ?_; refine Qj (hK _ _ (Qz (Q0 ?_))); clear hK K)
    refine QK [_] rfl (Qu rfl QQ) (by rw [e0, h, Bool.false_and]; rfl) rfl
abbrev tkCs (t : Tk) : List CT := [intC t.va, adrF t.ds, intC t.pr]
abbrev tkC (t : Tk) : CT := .fr (aggT (tkCs t))
theorem YX : InGo Tryz.prog 92 := InGo.of Tryz.func92 rfl (by decide)
theorem Yu (r : Rs) : Ok Tryz.prog 92 [rsC r] (tkC (trOf r)) := by
  refine Ok.enter Tryz.func92 rfl _ Tryz.ntmps92 rfl ?_
  intro S w
  (refine Qw (Qq fun K hK => ?_); refine Xk 0 rfl rfl rfl rfl rfl rfl rfl ?_)
  refine Qg 1 rfl rfl (by with_reducible exact zvTrace) rfl rfl rfl ?_
  (refine Qj (hK _ _ (Qz (Qw ?_))); clear hK K; refine Qq (fun K hK => ?_); refine QV rfl rfl rfl (by with_reducible first | exact fS0 | exact fS1 | exact fS2 | exact fS3 | exact fS4 | exact fS5 | exact fS6 | exact fS7 | exact fS8 | exact fS9 | exact fS10 | exact fS11 | exact fN0 | exact fN1 | exact fN2 | exact fN3 | exact fN4 | exact fN5) rfl ?_; refine QJ rfl rfl rfl rfl rfl (by with_reducible first | exact lInt | exact Qa | exact Q5 | exact lRess) rfl ?_; refine QV rfl rfl rfl (by with_reducible first | exact fS0 | exact fS1 | exact fS2 | exact fS3 | exact fS4 | exact fS5 | exact fS6 | exact fS7 | exact fS8 | exact fS9 | exact fS10 | exact fS11 | exact fN0 | exact fN1 | exact fN2 | exact fN3 | exact fN4 | exact fN5) rfl ?_; refine QJ rfl rfl rfl rfl rfl (by with_reducible first | exact lInt | exact Qa | exact Q5 | exact lRess) rfl ?_; refine QV rfl rfl rfl (by with_reducible first | exact fS0 | exact fS1 | exact fS2 | exact fS3 | exact fS4 | exact fS5 | exact fS6 | exact fS7 | exact fS8 | exact fS9 | exact fS10 | exact fS11 | exact fN0 | exact fN1 | exact fN2 | exact fN3 | exact fN4 | exact fN5) rfl ?_; refine QJ rfl rfl rfl rfl rfl (by with_reducible first | exact lInt | exact Qa | exact Q5 | exact lRess) rfl ?_)
  refine Qs rfl (by with_reducible exact bTrace) rfl (.one rfl rfl rfl rfl (.one rfl rfl rfl rfl (.one rfl rfl rfl rfl .nil))) rfl ?_
  refine Qc 3 rfl rfl rfl rfl rfl (by with_reducible exact szTrace) rfl rfl ?_
  (refine Qj (hK _ _ (Qz (Q0 ?_))); clear hK K)
  refine Fin.end [_] rfl (Qi (n := 3) rfl rfl (by with_reducible exact Zl) rfl QQ) rfl rfl
structure Ik where
  va : Int
  ru : Int
  nu : Int
deriving DecidableEq
def idOf (r : Rs) : Ik := ⟨r.va, r.ru, r.nu⟩
abbrev ikCs (i : Ik) : List CT := [intC i.va, intC i.ru, intC i.nu]
abbrev ikC (i : Ik) : CT := .fr (aggT (ikCs i))
theorem lID : LdN Tryz.prog 124 3 := LdN.of _ Tryz.underlying124 rfl (by kernel_rfl)
theorem szID : (Tryz.prog.info? 124).map (·.size) = some 3 := by kernel_rfl
theorem zvID : (Tryz.prog.info? 124).map (·.zero) = some (some (.agg #[.int .i64 0, .int .i64 0, .int .i64 0])) := by kernel_rfl
theorem bID' : bInfo Tryz.prog 124 = some (.agg #[.int .i64 0, .int .i64 0, .int .i64 0], [(0, some 1), (1, some 1), (2, some 1)]) := by kernel_rfl
theorem Zg : InGo Tryz.prog 64 := InGo.of Tryz.func64 rfl (by decide)
theorem YJ (r : Rs) : Ok Tryz.prog 64 [rsC r] (ikC (idOf r)) := by
  refine Ok.enter Tryz.func64 rfl _ Tryz.ntmps64 rfl ?_
  intro S w
  (refine Qw (Qq fun K hK => ?_); refine Xk 0 rfl rfl rfl rfl rfl rfl rfl ?_)
  refine Qg 1 rfl rfl (by with_reducible exact zvID) rfl rfl rfl ?_
  (refine Qj (hK _ _ (Qz (Qw ?_))); clear hK K; refine Qq (fun K hK => ?_); refine QV rfl rfl rfl (by with_reducible first | exact fS0 | exact fS1 | exact fS2 | exact fS3 | exact fS4 | exact fS5 | exact fS6 | exact fS7 | exact fS8 | exact fS9 | exact fS10 | exact fS11 | exact fN0 | exact fN1 | exact fN2 | exact fN3 | exact fN4 | exact fN5) rfl ?_; refine QJ rfl rfl rfl rfl rfl (by with_reducible first | exact lInt | exact Qa | exact Q5 | exact lRess) rfl ?_; refine QV rfl rfl rfl (by with_reducible first | exact fS0 | exact fS1 | exact fS2 | exact fS3 | exact fS4 | exact fS5 | exact fS6 | exact fS7 | exact fS8 | exact fS9 | exact fS10 | exact fS11 | exact fN0 | exact fN1 | exact fN2 | exact fN3 | exact fN4 | exact fN5) rfl ?_; refine QJ rfl rfl rfl rfl rfl (by with_reducible first | exact lInt | exact Qa | exact Q5 | exact lRess) rfl ?_; refine QV rfl rfl rfl (by with_reducible first | exact fS0 | exact fS1 | exact fS2 | exact fS3 | exact fS4 | exact fS5 | exact fS6 | exact fS7 | exact fS8 | exact fS9 | exact fS10 | exact fS11 | exact fN0 | exact fN1 | exact fN2 | exact fN3 | exact fN4 | exact fN5) rfl ?_; refine QJ rfl rfl rfl rfl rfl (by with_reducible first | exact lInt | exact Qa | exact Q5 | exact lRess) rfl ?_)
  refine Qs rfl (by with_reducible exact bID') rfl (.one rfl rfl rfl rfl (.one rfl rfl rfl rfl (.one rfl rfl rfl rfl .nil))) rfl ?_
  refine Qc 3 rfl rfl rfl rfl rfl (by with_reducible exact szID) rfl rfl ?_
  (refine Qj (hK _ _ (Qz (Q0 ?_))); clear hK K)
  refine Fin.end [_] rfl (Qi (n := 3) rfl rfl (by with_reducible exact lID) rfl QQ) rfl rfl
theorem foldl_take {α β : Type} (f : β → α → β) (b : β) {l : List α} {z : α} {i : Nat} (h : i < l.length) : (l.take (i + 1)).foldl f b = f ((l.take i).foldl f b) (l.getD i z) := by
  have e : l.take (i + 1) = l.take i ++ [l.getD i z] := by
    rw [List.take_add_one, List.getElem?_eq_getElem h, List.getD_eq_getElem?_getD, List.getElem?_eq_getElem h]; rfl
  rw [e, List.foldl_append]; rfl
theorem goEnd : InGo Tryz.prog 169 := InGo.of Tryz.func169 rfl (by decide)
set_option maxHeartbeats 4000000 in
theorem End_ok (l : List Rs) (hl : l.length ≤ 100000) : Ok Tryz.prog 169 [rssC l] (intC (endF l)) := by
  refine Ok.enter Tryz.func169 rfl _ Tryz.ntmps169 rfl ?_
  intro S w
  (refine Qw (Qq fun K hK => ?_); refine Qv rfl rfl rfl ?_; refine Qj (hK _ _ (Qz (Qw ?_))); clear hK K; refine Qq (fun K hK => ?_); refine Qv rfl rfl rfl ?_; refine Qj (hK _ _ (Qz (Qw (Qw ?_)))); clear hK K; refine Qq (fun K hK => ?_); refine Qx rfl rfl rfl ?_; refine Qd rfl rfl (by with_reducible exact sRes.und) (List.length_map ..) rfl ?_; refine Qx rfl rfl rfl ?_; refine Qj (hK _ _ (Qz (Q4 ?_))); clear hK K)
  refine Xj (α := Nat) (fun i => i ≤ l.length)
    (fun i => [(3, .ct (intC ((l.take i).foldl endS 0))), (6, .ct (rssC l)), (7, .ct (intC l.length)), (8, .ct (intC i))]) (fun _ => []) (fun i => l.length - i) 0 (Nat.zero_le _) (by exact QX rfl ⟨rfl, rfl, rfl, rfl, trivial⟩) ?_
  intro i hi
  try dsimp only at hi ⊢
  (refine Qw (Qq fun K hK => ?_); refine Qk ilss rfl rfl rfl rfl ?_; refine Qj (hK _ _ (Qz (Qw ?_))); clear hK K)
  refine Q2 rfl (fun h => ?_) (fun h => ?_)
  · have e2 : (i : Int).toNat = i := Int.toNat_natCast i
    have hs := foldl_take endS 0 (z := rs0) (l := l) (i := i) (by omega)
    generalize (l.take i).foldl endS 0 = e at hs
    have next : ∀ e' : Int, endS e (l.getD i rs0) = e' → (l.take (i + 1)).foldl endS 0 = e' := fun e' h => by rw [hs, h]
    clear hs
    (refine Q1 (Qz (Qw (Q4 (Qw (Qq fun K hK => ?_))))); refine Ql rfl rfl rfl (by with_reducible exact sRes) (by omega) (Z9 (by omega) (by omega)) rfl ?_; refine XW (n := 17) rfl rfl rfl (by with_reducible exact lRes) rfl rfl ?_; refine Qg 0 rfl rfl (by with_reducible exact zvRes) rfl rfl rfl ?_; refine Qc 17 rfl rfl rfl rfl rfl (by with_reducible exact szRes) rfl rfl ?_; refine Qj (hK _ _ (Qz (Qw ?_))); clear hK K; refine Qq (fun K hK => ?_); refine Qx rfl rfl rfl ?_; refine Qk ieql rfl rfl rfl rfl ?_; refine Qx rfl rfl rfl ?_)
    rw [e2]
    generalize l.getD i rs0 = c at next
    have hF := Final_ok c
    have es : endS e c = if (e = 0 ∨ c.tt < e) ∧ fiR c = true then c.tt else e := rfl
    generalize fiR c = fb at hF es
    skip
    refine Q6 14 (p := e = 0) rfl (fun h1 => ?_) (fun h1 => ?_)
    · (refine Qy rfl rfl rfl ?_; refine Qy rfl rfl rfl ?_; refine Qy rfl rfl rfl ?_; refine Qy rfl rfl rfl ?_; refine QZ rfl rfl rfl rfl ?_; refine Qx rfl rfl rfl ?_; refine Q7 (n := 17) rfl rfl rfl rfl rfl (by with_reducible exact lRes) rfl ?_)
      refine QW goFinal hF rfl rfl rfl rfl ?_
      (refine QZ rfl rfl rfl rfl ?_; refine Qj (hK _ _ (Qz ?_)); clear hK K)
      refine Xy rfl (fun h2 => ?_) (fun h2 => ?_)
      · have en := next c.tt (by rw [es, if_pos ⟨.inl h1, h2⟩])
        (refine Qq (fun K hK => ?_); refine QV rfl rfl rfl (by with_reducible first | exact fS0 | exact fS1 | exact fS2 | exact fS3 | exact fS4 | exact fS5 | exact fS6 | exact fS7 | exact fS8 | exact fS9 | exact fS10 | exact fS11 | exact fN0 | exact fN1 | exact fN2 | exact fN3 | exact fN4 | exact fN5) rfl ?_; refine QJ rfl rfl rfl rfl rfl (by with_reducible first | exact lInt | exact Qa | exact Q5 | exact lRess) rfl ?_; refine Qv rfl rfl rfl ?_; refine Qj (hK _ _ (Qz ?_)); clear hK K; refine Qq (fun K hK => ?_); refine Qk (iadd (by omega) (by omega)) rfl rfl rfl rfl ?_; refine Qx rfl rfl rfl ?_; refine Qj (hK _ _ (Q3 ?_)); clear hK K)
        refine Qn 0 ?_
        refine Q9 (i + 1) (by omega) (by omega) (by rw [en]; exact QX rfl ⟨rfl, rfl, rfl, by simp only [Int.natCast_add]; rfl, trivial⟩)
      · have en := next e (by rw [es, if_neg (fun h3 => by rw [h2] at h3; exact absurd h3.2 (by decide))])
        (refine Q1 (Qz (Qq fun K hK => ?_)); refine Qk (iadd (by omega) (by omega)) rfl rfl rfl rfl ?_; refine Qx rfl rfl rfl ?_; refine Qj (hK _ _ (Q3 ?_)); clear hK K)
        refine Qn 0 ?_
        refine Q9 (i + 1) (by omega) (by omega) (by rw [en]; exact QX rfl ⟨rfl, rfl, rfl, by simp only [Int.natCast_add]; rfl, trivial⟩)
    · (refine QV rfl rfl rfl (by with_reducible first | exact fS0 | exact fS1 | exact fS2 | exact fS3 | exact fS4 | exact fS5 | exact fS6 | exact fS7 | exact fS8 | exact fS9 | exact fS10 | exact fS11 | exact fN0 | exact fN1 | exact fN2 | exact fN3 | exact fN4 | exact fN5) rfl ?_; refine QJ rfl rfl rfl rfl rfl (by with_reducible first | exact lInt | exact Qa | exact Q5 | exact lRess) rfl ?_; refine Qx rfl rfl rfl ?_; refine Qk ilss rfl rfl rfl rfl ?_; refine QU rfl rfl rfl rfl ?_; refine Qx rfl rfl rfl ?_)
      refine Q6 20 (p := c.tt < e) rfl (fun h3 => ?_) (fun h3 => ?_)
      · (refine Q7 (n := 17) rfl rfl rfl rfl rfl (by with_reducible exact lRes) rfl ?_)
        refine QW goFinal hF rfl rfl rfl rfl ?_
        (refine QZ rfl rfl rfl rfl ?_; refine Qj (hK _ _ (Qz ?_)); clear hK K)
        refine Xy rfl (fun h2 => ?_) (fun h2 => ?_)
        · have en := next c.tt (by rw [es, if_pos ⟨.inr h3, h2⟩])
          (refine Qq (fun K hK => ?_); refine QV rfl rfl rfl (by with_reducible first | exact fS0 | exact fS1 | exact fS2 | exact fS3 | exact fS4 | exact fS5 | exact fS6 | exact fS7 | exact fS8 | exact fS9 | exact fS10 | exact fS11 | exact fN0 | exact fN1 | exact fN2 | exact fN3 | exact fN4 | exact fN5) rfl ?_; refine QJ rfl rfl rfl rfl rfl (by with_reducible first | exact lInt | exact Qa | exact Q5 | exact lRess) rfl ?_; refine Qv rfl rfl rfl ?_; refine Qj (hK _ _ (Qz ?_)); clear hK K; refine Qq (fun K hK => ?_); refine Qk (iadd (by omega) (by omega)) rfl rfl rfl rfl ?_; refine Qx rfl rfl rfl ?_; refine Qj (hK _ _ (Q3 ?_)); clear hK K)
          refine Qn 0 ?_
          refine Q9 (i + 1) (by omega) (by omega) (by rw [en]; exact QX rfl ⟨rfl, rfl, rfl, by simp only [Int.natCast_add]; rfl, trivial⟩)
        · have en := next e (by rw [es, if_neg (fun h3 => by rw [h2] at h3; exact absurd h3.2 (by decide))])
          (refine Q1 (Qz (Qq fun K hK => ?_)); refine Qk (iadd (by omega) (by omega)) rfl rfl rfl rfl ?_; refine Qx rfl rfl rfl ?_; refine Qj (hK _ _ (Q3 ?_)); clear hK K)
          refine Qn 0 ?_
          refine Q9 (i + 1) (by omega) (by omega) (by rw [en]; exact QX rfl ⟨rfl, rfl, rfl, by simp only [Int.natCast_add]; rfl, trivial⟩)
      · have en := next e (by rw [es, if_neg (fun h4 => h4.1.elim h1 h3)])
        (refine Qy rfl rfl rfl ?_; refine Qy rfl rfl rfl ?_; refine QU rfl rfl rfl rfl ?_; refine Qj (hK _ _ (Qz (Xv rfl (Q1 (Qz ?_))))); clear hK K; refine Qq (fun K hK => ?_); refine Qk (iadd (by omega) (by omega)) rfl rfl rfl rfl ?_; refine Qx rfl rfl rfl ?_; refine Qj (hK _ _ (Q3 ?_)); clear hK K)
        refine Qn 0 ?_
        refine Q9 (i + 1) (by omega) (by omega) (by rw [en]; exact QX rfl ⟨rfl, rfl, rfl, by simp only [Int.natCast_add]; rfl, trivial⟩)
  · have hi' : i = l.length := by omega
    have el : (l.take i).foldl endS 0 = endF l := by rw [hi', List.take_length]; rfl
    rw [el]
    (refine Qp (Qz (Qw (Qq fun K hK => ?_))); refine Qx rfl rfl rfl ?_; refine Qv rfl rfl rfl ?_; refine Qj (hK _ _ (Qz (Q0 ?_))); clear hK K)
    refine QK [_] rfl (Qu rfl QQ) rfl rfl
end Go.Proofs.YtlkdkbdgnjcopaaGreat
namespace Go.Own
open Go.RowKit
def encI (ks : List IntKind) (ps : List Int) : Value := .agg ((ks.zip ps).map (fun p => Value.int p.1 p.2)).toArray
structure FlatK (P : Program) (t : TypeId) (ks : List IntKind) : Prop where
  und : ∃ fs, P.underlying t = some (.struct fs)
  eq : ∀ (ps qs : List Int) (w : World), ps.length = ks.length → qs.length = ks.length → (Op.equalIn 10000 t (encI ks ps) (encI ks qs)).run P w = .ok (decide (ps = qs)) w
  ck : ∀ (e : Bool) (ps : List Int) (w : World), ps.length = ks.length → (Instr.checkKey e 10000 t (encI ks ps)).run P w = .ok () w
theorem run_ckStruct {P : Program} {t : TypeId} {fs : Array Field} (hu : P.underlying t = some (.struct fs)) (e : Bool) (n : Nat) (xs : Array Value) (w : World)
    (h : ∀ f ∈ fs.toList, f.name ≠ "_" ∧ ∃ a, (part f.type xs f.offset).run P w = .ok a w ∧ (Instr.checkKey e n f.type a).run P w = .ok () w) : (Instr.checkKey e (n + 1) t (.agg xs)).run P w = .ok () w := by
  rw [Instr.checkKey]
  simp only [Sem.run_bind, run_underlying hu, Result.andThen_ok]
  rw [← Array.forIn_toList]
  generalize fs.toList = L at h
  induction L with
  | nil => simp
  | cons f L ih =>
    obtain ⟨hn, a, p1, p2⟩ := h f (by simp)
    simp only [List.forIn_cons, Sem.run_bind, hn, ne_eq, not_false_eq_true, if_true, Result.andThen_ok, p1, p2, Sem.run_pure]
    exact ih (fun y hy => h y (by simp [hy]))
theorem run_ckInt {P : Program} {t : TypeId} {k : IntKind} (hu : P.underlying t = some (.int k)) (e : Bool) (n : Nat) (v : Int) (w : World) : (Instr.checkKey e (n + 1) t (.int k v)).run P w = .ok () w := by
  simp [Instr.checkKey, run_underlying hu]
theorem ck_ints {P : Program} (e : Bool) (n : Nat) (xs : Array Value) (w : World) : ∀ (fs : List Field) (ks : List IntKind) (ps : List Int) (s : Nat), ps.length = ks.length →
    fs.map (fun f => (f.name == "_", f.offset, P.underlying f.type)) = (ks.zipIdx s).map (fun p => (false, p.2, some (TypeDesc.int p.1))) →
    (∀ j kk p, ks[j]? = some kk → ps[j]? = some p → xs[s + j]? = some (.int kk p)) → ∀ f ∈ fs, f.name ≠ "_" ∧ ∃ a, (part f.type xs f.offset).run P w = .ok a w ∧ (Instr.checkKey e (n + 1) f.type a).run P w = .ok () w
  | [], _, _, _, _, _, _, _, hf => by cases hf
  | g :: fs, [], _, _, _, h, _, _, _ => by simp at h
  | g :: fs, k :: ks, [], _, h0, _, _, _, _ => by simp at h0
  | g :: fs, k :: ks, p :: ps, s, h0, h, hx, f, hf => by
    simp only [List.map_cons, List.zipIdx_cons] at h
    injection h with h1 h2
    injection h1 with hn ho
    injection ho with ho hu
    rcases List.mem_cons.1 hf with rfl | hf
    · have hx0 := hx 0 k p rfl rfl
      rw [Nat.add_zero] at hx0
      exact ⟨by simpa using hn, _, run_part_int hu (by rw [ho]; exact hx0) w, run_ckInt hu e n p w⟩
    · exact ck_ints e n xs w fs ks ps (s + 1) (by simpa using h0) h2 (fun j kk p' a b => by rw [show s + 1 + j = s + (j + 1) by omega]; exact hx (j + 1) kk p' a b) f hf
theorem EqS.flat {P : Program} {t : TypeId} {ks : List IntKind} (h : EqS P t ks) : FlatK P t ks where
  und := ⟨_, h.und⟩
  eq ps qs w h1 h2 := h.run ps qs h1 h2 w
  ck e ps w h1 := run_ckStruct h.und e 9999 _ w (ck_ints e 9998 _ w _ ks ps 0 h1 h.fields (fun j kk p a b => by rw [Nat.zero_add, List.getElem?_toArray]; exact zip_get a b))
structure EqF (P : Program) (t ta : TypeId) (k1 k2 : List IntKind) : Prop where
  und : P.underlying t = some (.struct (P.fieldsOf t))
  held : P.stoodInHeld t = false
  fields : ((P.fieldsOf t).toList.drop 1).map (fun f => (f.name == "_", f.offset, P.underlying f.type)) = (k2.zipIdx k1.length).map (fun p => (false, p.2, some (TypeDesc.int p.1)))
  first : ((P.fieldsOf t).toList.head?).map (fun f => (f.name == "_", f.offset, f.type)) = some (false, 0, ta)
  unda : P.underlying ta = some (.struct (P.fieldsOf ta))
  helda : P.stoodInHeld ta = false
  size : (P.info? ta).map (·.size) = some k1.length
  fieldsa : (P.fieldsOf ta).toList.map (fun f => (f.name == "_", f.offset, P.underlying f.type)) = k1.zipIdx.map (fun p => (false, p.2, some (TypeDesc.int p.1)))
theorem EqF.flat {P : Program} {t ta : TypeId} {k1 k2 : List IntKind} (h : EqF P t ta k1 k2) : FlatK P t (k1 ++ k2) := by
  obtain ⟨fa, fs, hfs⟩ : ∃ fa fs, (P.fieldsOf t).toList = fa :: fs := by
    cases e : (P.fieldsOf t).toList with
    | nil => have := h.first; rw [e] at this; cases this
    | cons fa fs => exact ⟨fa, fs, rfl⟩
  have hF := h.fields
  rw [hfs] at hF
  simp only [List.drop_succ_cons, List.drop_zero] at hF
  have h1 := h.first
  rw [hfs] at h1
  simp only [List.head?_cons, Option.map_some, Option.some.injEq, Prod.mk.injEq] at h1
  obtain ⟨hn, ho, ht⟩ := h1
  have hne : fa.name ≠ "_" := by simpa using hn
  have hpart : ∀ (ps : List Int) (w : World), ps.length = (k1 ++ k2).length → (part fa.type (((k1 ++ k2).zip ps).map (fun p => Value.int p.1 p.2)).toArray fa.offset).run P w = .ok (encI k1 (ps.take k1.length)) w := fun ps w hl => by
    have hs : (sizeOf fa.type).run P w = .ok k1.length w := by
      rw [ht]
      obtain ⟨i, hi, hs⟩ := Option.map_eq_some_iff.1 h.size
      simp [sizeOf, typeInfo, hi, hs]
    have ha : (isAgg fa.type).run P w = .ok true w := by simp [isAgg, run_underlying (ht ▸ h.unda)]
    simp only [part, Sem.run_bind, ha, Result.andThen_ok, if_true, hs, Sem.run_pure]
    unfold encI
    congr 2
    rw [ho]
    apply Array.ext'
    simp only [Array.toList_extract, List.extract_eq_take_drop, List.drop_zero, Nat.zero_add, Nat.sub_zero]
    rw [← List.map_take, List.zip_eq_zipWith, List.take_zipWith, List.take_left, ← List.zip_eq_zipWith]
  have hget : ∀ (ps : List Int), ps.length = (k1 ++ k2).length → ∀ (j : Nat) (kk : IntKind) (p : Int), k2[j]? = some kk → (ps.drop k1.length)[j]? = some p → (((k1 ++ k2).zip ps).map (fun p => Value.int p.1 p.2)).toArray[k1.length + j]? = some (.int kk p) := fun ps hl j kk p a b => by
    rw [List.getElem?_toArray]
    refine zip_get ?_ ?_
    · rw [List.getElem?_append_right (by omega), Nat.add_sub_cancel_left]; exact a
    · rw [List.getElem?_drop] at b; exact b
  have hgeta : ∀ (ps : List Int) (j : Nat) (kk : IntKind) (p : Int), k1[j]? = some kk → ps[j]? = some p → ((k1.zip ps).map (fun p => Value.int p.1 p.2)).toArray[0 + j]? = some (.int kk p) := fun ps j kk p a b => by
    rw [Nat.zero_add, List.getElem?_toArray]; exact zip_get a b
  refine ⟨⟨_, h.und⟩, fun ps qs w hp hq => ?_, fun e ps w hp => ?_⟩
  · unfold encI
    rw [run_equalIn_struct w 9999 t _ _ h.und h.held, hfs]
    simp only [Op.eqFields, if_pos hne, Sem.run_bind]
    rw [hpart ps w hp]
    simp only [Result.andThen_ok]
    rw [hpart qs w hq]
    simp only [Result.andThen_ok]
    rw [ht]
    unfold encI
    have lp : (ps.take k1.length).length = k1.length := by rw [List.length_take]; simp at hp; omega
    have lq : (qs.take k1.length).length = k1.length := by rw [List.length_take]; simp at hq; omega
    rw [run_equalIn_struct w 9998 ta _ _ h.unda h.helda, run_eqFields 9997 _ _ w _ k1 _ _ 0 lp lq h.fieldsa (hgeta _) (hgeta _)]
    simp only [Result.andThen_ok]
    by_cases h2 : ps.take k1.length = qs.take k1.length
    · simp only [h2, decide_true, Bool.not_true, Bool.false_eq_true, if_false]
      rw [run_eqFields 9998 _ _ w fs k2 (ps.drop k1.length) (qs.drop k1.length) k1.length (by simp at hp ⊢; omega) (by simp at hq ⊢; omega) hF (hget ps hp) (hget qs hq)]
      congr 1
      refine decide_eq_decide.2 ⟨fun h3 => ?_, fun h3 => by rw [h3]⟩
      rw [← List.take_append_drop k1.length ps, ← List.take_append_drop k1.length qs, h2, h3]
    · have h4 : ps ≠ qs := fun h5 => h2 (by rw [h5])
      simp [h2, h4]
  · refine run_ckStruct h.und e 9999 _ w ?_
    rw [hfs]
    intro f hf
    rcases List.mem_cons.1 hf with rfl | hf
    · refine ⟨hne, _, hpart ps w hp, ?_⟩
      rw [ht]
      refine run_ckStruct h.unda e 9998 _ w (ck_ints e 9997 _ w _ k1 (ps.take k1.length) 0 (by rw [List.length_take]; simp at hp; omega) h.fieldsa (hgeta _))
    · exact ck_ints e 9998 _ w fs k2 (ps.drop k1.length) k1.length (by simp at hp ⊢; omega) hF (hget ps hp) f hf
theorem sameBits_ints (n : Nat) (l : List (IntKind × Int)) : Instr.sameBits (n + 1) (.agg (l.map (fun p => Value.int p.1 p.2)).toArray) (.agg (l.map (fun p => Value.int p.1 p.2)).toArray) = true := by
  simp only [Instr.sameBits, beq_self_eq_true, Bool.true_and]
  rw [List.all_eq_true]
  rintro ⟨x, y⟩ hxy
  have : x = y := by
    simp only [List.zip_eq_zipWith] at hxy
    obtain ⟨i, hi⟩ := List.getElem?_of_mem hxy
    rw [List.getElem?_zipWith] at hi
    split at hi
    · rename_i u v hu hv; rw [hu] at hv; injection hv with hv; injection hi with hi; injection hi with h1 h2; rw [← h1, ← h2, hv]
    · cases hi
  subst this
  have hm := (List.of_mem_zip hxy).1
  simp only [List.mem_map] at hm
  obtain ⟨p, _, rfl⟩ := hm
  simp [Instr.sameBits]
theorem FlatK.key {P : Program} {t : TypeId} {ks : List IntKind} (h : FlatK P t ks) {κ : Type} [DecidableEq κ] (f : κ → List Int) (hl : ∀ a, (f a).length = ks.length) (hi : ∀ a b, f a = f b → a = b) : KeyT P t (fun a => encI ks (f a)) where
  now l i a D hD hne hl := by
    obtain ⟨fs, hu⟩ := h.und
    rw [hu] at hD; injection hD with hD; subst hD
    cases l with
    | nil => exact absurd rfl hne
    | cons e l => simp [Instr.findNow, encI, Instr.sameNow]
  und := by obtain ⟨fs, hu⟩ := h.und; exact ⟨_, hu⟩
  eq a b w := by
    have := h.eq (f a) (f b) w (hl a) (hl b)
    show (Op.equalIn 10000 t _ _).run P w = _
    rw [this]
    congr 1
    exact decide_eq_decide.2 ⟨hi a b, fun h => by rw [h]⟩
  ck e a w := h.ck e (f a) w (hl a)
  sb a := sameBits_ints 9999 _
section
variable {X : Ctx} {L : AL} {B : BL} {ops : Array Oper} {K : Act → World → Prop} {r : Pl} {k : Kd}
  {x y z : Operand} {d : Nat} {t t2 t' : TypeId} {pos : String} {af : Array Edge} {g : Option (Nat × Bool)}
theorem Ops.eqK {ks : List IntKind} (ps qs : List Int) (hg : gd ops L g = some true) (hx : ev L x = some (.ct (.fr (aggT (kc ks ps))))) (hy : ev L y = some (.ct (.fr (aggT (kc ks qs))))) (h1 : ps.length = ks.length) (h2 : qs.length = ks.length) (hE : FlatK X.P t ks) (hG : X.P.eqGuardType X.P.depth t = false) (hn : Nat.blt d X.n = true)
    (h : Ops X ops r ((d, .ct (.ex (.bool (decide (ps = qs))))) :: L) B K) : Ops X ops (.cons ⟨some d, .binOp .eql t x y t2, t', pos, af, g⟩ k r) L B K :=
  XK (s := .ct (.ex (.bool (decide (ps = qs))))) hg rfl hn (fun a ρ w hI => ⟨_, fun w' _ => by
    obtain ⟨us, e1, c1⟩ := hI.ev hx
    obtain ⟨vs, e2, c2⟩ := hI.ev hy
    have d1 := kc_cells h1 c1
    have d2 := kc_cells h2 c2
    subst d1; subst d2
    show (do pure (Next.value (← (do eqGuard .eql t x y (a.eval x) (a.eval y); binOp .eql t (a.eval x) (a.eval y) : Sem Value))) : Sem Next).run X.P w' = _
    rw [e1, e2]
    refine Xd ?_
    simp only [Sem.run_bind, run_eqGuard_agg w' _ t x y _ _ hG, Result.andThen_ok]
    have := hE.eq ps qs w' h1 h2
    unfold Go.Own.encI at this
    rw [run_eql_struct, this]; rfl, rfl⟩) h
end
end Go.Own
namespace Go.Proofs.YtlkdkbdgnjcopaaGreat
open Go.Own Go.Limbs
attribute [local irreducible] St Ops Go.Own.Fin Ok OkB OkN OkT OkL OkF
def tk0 : Tk := ⟨0, 0, 0⟩
instance : Inhabited Tk := ⟨tk0⟩
def ik0 : Ik := ⟨0, 0, 0⟩
abbrev wr0 : Wr := (0, 0)
abbrev wrCs (x : Wr) : List CT := [adrF x.1, adrF x.2]
abbrev wrC (x : Wr) : CT := .fr (aggT (wrCs x))
def ikI (x : Ik) : List Int := [x.va, x.ru, x.nu]
def wrI (x : Wr) : List Int := [(x.1.val : Int), (x.2.val : Int)]
theorem ZK : LdN Tryz.prog 37 2 := LdN.of _ Tryz.underlying37 rfl (by kernel_rfl)
theorem szWire : (Tryz.prog.info? 37).map (·.size) = some 2 := by kernel_rfl
theorem zvWire : (Tryz.prog.info? 37).map (·.zero) = some (some (.agg #[.int .u32 0, .int .u32 0])) := by kernel_rfl
theorem bWire : bInfo Tryz.prog 37 = some (.agg #[.int .u32 0, .int .u32 0], [(0, some 1), (1, some 1)]) := by kernel_rfl
theorem tkI_inj (x y : Tk) (h : tkI x = tkI y) : x = y := by
  obtain ⟨a1, a2, a3⟩ := x; obtain ⟨b1, b2, b3⟩ := y
  simp only [tkI, List.cons.injEq, and_true, Int.ofNat_inj, Fin.val_inj] at h
  obtain ⟨h1, h2, h3⟩ := h; rw [h1, h2, h3]
theorem wrI_inj (x y : Wr) (h : wrI x = wrI y) : x = y := by
  obtain ⟨a1, a2⟩ := x; obtain ⟨b1, b2⟩ := y
  simp only [wrI, List.cons.injEq, and_true, Int.ofNat_inj, Fin.val_inj] at h
  obtain ⟨h1, h2⟩ := h; rw [h1, h2]
theorem tk_len (x : Tk) : (tkCs x).length = 3 := rfl
abbrev tksC (l : List Tk) : CT := .fr (sliceT 3 (l.map tkCs))
def tks (l : List Tk) : List CT := (l.map tkCs).flatten
theorem tks_frozen (e : Nat) (l : List Tk) : (Ent.row e 3 (tks l)).frozen (sliceT 3 (l.map tkCs)) :=
  ⟨_, rfl, fun e he => by obtain ⟨m, _, rfl⟩ := List.mem_map.mp he; rfl, by decide, rfl⟩
theorem tks_at {l : List Tk} {j : Int} (h0 : 0 ≤ j) (h : j < (l.length : Int)) : (l.map tkCs)[j.toNat]? = some (tkCs (l.getD j.toNat tk0)) := by
  have : j.toNat < l.length := by omega
  simp [List.getElem?_map, List.getElem?_eq_getElem this, List.getD_eq_getElem?_getD]
theorem tks_len (l : List Tk) : (tks l).length = l.length * 3 := el_len tk_len l
theorem tks_snoc (l : List Tk) (r : Tk) : tks (l ++ [r]) = tks l ++ tkCs r := by simp [tks]
theorem tks_take (l : List Tk) (i : Nat) : (tks l).take (i * 3) = tks (l.take i) := el_take tk_len l i
theorem sTks : SlcT Tryz.prog 82 86 3 24 (.agg #[.int .i64 0, .int .u32 0, .int .i64 0]) := SlcT.of Tryz.underlying82 (by kernel_rfl) rfl (by decide)
theorem eTk : EqS Tryz.prog 86 [.i64, .u32, .i64] := ⟨by kernel_rfl, by kernel_rfl, by kernel_rfl, by kernel_rfl⟩
theorem tk_inj {x y : Tk} : (tkI x = tkI y) ↔ x = y := ⟨tkI_inj _ _, fun h => by rw [h]⟩
theorem keyTk : KeyT Tryz.prog 86 (fun x : Tk => Go.Own.encI [.i64, .u32, .i64] (tkI x)) := eTk.flat.key tkI (fun _ => rfl) (fun _ _ => tk_inj.1)
section
variable {X : Ctx} {L : AL} {B : BL} {ops : Array Oper} {K : Act → World → Prop} {r : Pl} {k : Kd}
  {x y z : Operand} {d : Nat} {t t2 t' : TypeId} {pos : String} {af : Array Edge} {g : Option (Nat × Bool)}
theorem eqTk (p q : Tk) (hg : gd ops L g = some true) (hx : ev L x = some (.ct (.fr (aggT (tkCs p))))) (hy : ev L y = some (.ct (.fr (aggT (tkCs q))))) (hP : X.P = Tryz.prog) (hn : Nat.blt d X.n = true)
    (h : Ops X ops r ((d, .ct (boolC (decide (p = q)))) :: L) B K) : Ops X ops (.cons ⟨some d, .binOp .eql 86 x y t2, t', pos, af, g⟩ k r) L B K :=
  Ops.eqS (ks := [.i64, .u32, .i64]) (tkI p) (tkI q) hg hx hy rfl rfl (hP ▸ eTk) hn (by rw [decide_eq_decide.2 tk_inj]; exact h)
theorem neTk (p q : Tk) (hg : gd ops L g = some true) (hx : ev L x = some (.ct (.fr (aggT (tkCs p))))) (hy : ev L y = some (.ct (.fr (aggT (tkCs q))))) (hP : X.P = Tryz.prog) (hn : Nat.blt d X.n = true)
    (h : Ops X ops r ((d, .ct (boolC (decide (¬ p = q)))) :: L) B K) : Ops X ops (.cons ⟨some d, .binOp .neq 86 x y t2, t', pos, af, g⟩ k r) L B K :=
  Ops.neS (ks := [.i64, .u32, .i64]) (tkI p) (tkI q) hg hx hy rfl rfl (hP ▸ eTk) hn (by rw [decide_eq_decide.2 tk_inj, ← decide_not]; exact h)
end
theorem ik_len (x : Ik) : (ikCs x).length = 3 := rfl
abbrev iksC (l : List Ik) : CT := .fr (sliceT 3 (l.map ikCs))
def iks (l : List Ik) : List CT := (l.map ikCs).flatten
theorem iks_frozen (e : Nat) (l : List Ik) : (Ent.row e 3 (iks l)).frozen (sliceT 3 (l.map ikCs)) :=
  ⟨_, rfl, fun e he => by obtain ⟨m, _, rfl⟩ := List.mem_map.mp he; rfl, by decide, rfl⟩
theorem iks_len (l : List Ik) : (iks l).length = l.length * 3 := el_len ik_len l
theorem iks_snoc (l : List Ik) (r : Ik) : iks (l ++ [r]) = iks l ++ ikCs r := by simp [iks]
theorem sIks : SlcT Tryz.prog 67 124 3 24 (.agg #[.int .i64 0, .int .i64 0, .int .i64 0]) := SlcT.of Tryz.underlying67 (by kernel_rfl) rfl (by decide)
section
variable {X : Ctx} {L : AL} {B : BL} {ops : Array Oper} {K : Act → World → Prop} {r : Pl} {k : Kd}
  {x y z : Operand} {d : Nat} {t t2 t' : TypeId} {pos : String} {af : Array Edge} {g : Option (Nat × Bool)}
end
theorem wr_len (x : Wr) : (wrCs x).length = 2 := rfl
abbrev wrsC (l : List Wr) : CT := .fr (sliceT 2 (l.map wrCs))
def wrs (l : List Wr) : List CT := (l.map wrCs).flatten
theorem wrs_frozen (e : Nat) (l : List Wr) : (Ent.row e 2 (wrs l)).frozen (sliceT 2 (l.map wrCs)) :=
  ⟨_, rfl, fun e he => by obtain ⟨m, _, rfl⟩ := List.mem_map.mp he; rfl, by decide, rfl⟩
theorem wrs_at {l : List Wr} {j : Int} (h0 : 0 ≤ j) (h : j < (l.length : Int)) : (l.map wrCs)[j.toNat]? = some (wrCs (l.getD j.toNat wr0)) := by
  have : j.toNat < l.length := by omega
  simp [List.getElem?_map, List.getElem?_eq_getElem this, List.getD_eq_getElem?_getD]
theorem Yw (l : List Wr) : (wrs l).length = l.length * 2 := el_len wr_len l
theorem wrs_app (l m : List Wr) : wrs (l ++ m) = wrs l ++ wrs m := by simp [wrs]
theorem wrs_snoc (l : List Wr) (r : Wr) : wrs (l ++ [r]) = wrs l ++ wrCs r := by simp [wrs]
theorem wrs_take (l : List Wr) (i : Nat) : (wrs l).take (i * 2) = wrs (l.take i) := el_take wr_len l i
theorem sWrs : SlcT Tryz.prog 64 37 2 8 (.agg #[.int .u32 0, .int .u32 0]) := SlcT.of Tryz.underlying64 (by kernel_rfl) rfl (by decide)
theorem eWr : EqS Tryz.prog 37 [.u32, .u32] := ⟨by kernel_rfl, by kernel_rfl, by kernel_rfl, by kernel_rfl⟩
theorem wr_inj {x y : Wr} : (wrI x = wrI y) ↔ x = y := ⟨wrI_inj _ _, fun h => by rw [h]⟩
theorem keyWr : KeyT Tryz.prog 37 (fun x : Wr => Go.Own.encI [.u32, .u32] (wrI x)) := eWr.flat.key wrI (fun _ => rfl) (fun _ _ => wr_inj.1)
section
variable {X : Ctx} {L : AL} {B : BL} {ops : Array Oper} {K : Act → World → Prop} {r : Pl} {k : Kd}
  {x y z : Operand} {d : Nat} {t t2 t' : TypeId} {pos : String} {af : Array Edge} {g : Option (Nat × Bool)}
theorem eqWr (p q : Wr) (hg : gd ops L g = some true) (hx : ev L x = some (.ct (.fr (aggT (wrCs p))))) (hy : ev L y = some (.ct (.fr (aggT (wrCs q))))) (hP : X.P = Tryz.prog) (hn : Nat.blt d X.n = true)
    (h : Ops X ops r ((d, .ct (boolC (decide (p = q)))) :: L) B K) : Ops X ops (.cons ⟨some d, .binOp .eql 37 x y t2, t', pos, af, g⟩ k r) L B K :=
  Ops.eqS (ks := [.u32, .u32]) (wrI p) (wrI q) hg hx hy rfl rfl (hP ▸ eWr) hn (by rw [decide_eq_decide.2 wr_inj]; exact h)
theorem neWr (p q : Wr) (hg : gd ops L g = some true) (hx : ev L x = some (.ct (.fr (aggT (wrCs p))))) (hy : ev L y = some (.ct (.fr (aggT (wrCs q))))) (hP : X.P = Tryz.prog) (hn : Nat.blt d X.n = true)
    (h : Ops X ops r ((d, .ct (boolC (decide (¬ p = q)))) :: L) B K) : Ops X ops (.cons ⟨some d, .binOp .neq 37 x y t2, t', pos, af, g⟩ k r) L B K :=
  Ops.neS (ks := [.u32, .u32]) (wrI p) (wrI q) hg hx hy rfl rfl (hP ▸ eWr) hn (by rw [decide_eq_decide.2 wr_inj, ← decide_not]; exact h)
end
end Go.Proofs.YtlkdkbdgnjcopaaGreat
namespace Go.Proofs.YtlkdkbdgnjcopaaGreat
open Go.RowKit Go.Maps Go.Shelf
open Go.Own (rangeIn nextIn appendIn itLeft itLeft_eq left_step left_start Stamps AbidesD GivesD)
abbrev wrV (x : Wr) : Value := .agg #[.int .u32 x.1.val, .int .u32 x.2.val]
def wrD : Value → Wr
  | .agg l => match l.toList with
    | [Value.int _ a, Value.int _ b] => (_root_.Fin.ofNat 4294967296 a.toNat, _root_.Fin.ofNat 4294967296 b.toNat)
    | _ => wr0
  | _ => wr0
theorem wrD_V (x : Wr) : wrD (wrV x) = x := by
  obtain ⟨a, b⟩ := x
  have h : ∀ a : _root_.Fin 4294967296, _root_.Fin.ofNat 4294967296 ((a.val : Int).toNat) = a := fun a => _root_.Fin.ext (by simp [_root_.Fin.ofNat])
  show ((_, _) : Wr) = _
  rw [h, h]
set_option maxRecDepth 100000 in
set_option maxHeartbeats 1000000 in
theorem keysIt (F : Fence) (n : Nat) (hf : F.fn 95) (hro : F.round = none) (hn : 1 ≤ n) (w : World) (Bm o b : Nat) (es : Array MapEntry) (clock : Nat) (ks : List Wr) (hBm : Bm < w.heap.size)
    (hm : w.cell? ⟨Bm, o, none⟩ = some (.map (some b))) (hb : w.heap[b]? = some (.map es clock)) (hS : Stamps es clock) (hk : es.toList.map (·.key) = ks.map wrV) :
    GivesD F n Tryz.prog 95 #[.pointer (some ⟨Bm, o, none⟩)] wrV (fun ss => ss.Perm ks) ks.length w := by
  intro l J W hW hJ hY h0
  have hbl : b < w.heap.size := (Array.getElem?_eq_some_iff.1 hb).1
  have hm : W.cell? ⟨Bm, o, none⟩ = some (.map (some b)) := (hW.cell (p := ⟨Bm, o, none⟩) hBm).trans hm
  have hb : W.heap[b]? = some (.map es clock) := (hW.block b hbl).trans hb
  have hks : ks = es.toList.map fun e => wrD e.key := by
    have : (es.toList.map (·.key)).map wrD = (ks.map wrV).map wrD := by rw [hk]
    rw [List.map_map, List.map_map] at this
    have e : ks.map (wrD ∘ wrV) = ks := by
      conv => rhs; rw [← List.map_id ks]
      exact List.map_congr_left fun x _ => wrD_V x
    rw [e] at this
    exact this.symm
  have hkv : ∀ e ∈ es.toList, e.key = wrV (wrD e.key) := fun e he => by
    have : e.key ∈ ks.map wrV := by rw [← hk]; exact List.mem_map_of_mem he
    obtain ⟨x, _, hx⟩ := List.mem_map.1 this
    rw [← hx, wrD_V]
  refine callsIn_of_wp Tryz.func95 rfl hf ?_ hro
  simp only [Tryz.ntmps95, List.size_toArray, List.length_cons, List.length_nil, Nat.reduceAdd, Nat.reduceSub, Array.replicate_succ, Array.replicate_zero, List.push_toArray, List.append_toArray, List.nil_append, List.cons_append]
  gi_wp2_with (first
    | (gi_at_range; refine rangeIn _ rfl _ _ rfl _ _ Tryz.underlying96 b es clock rfl hb ?_; intro w0 hr0 hg0 hd0)
    | gi_in)
  go_frame
  gi_loopw [3] (fun _ wr => ∃ (seen : Array Nat) (c0 : Nat) (ss : List Wr), wr.heap[W.heap.size]? = some (.mapIter (some b) clock seen c0) ∧ wr.heap[b]? = some (.map es clock) ∧ clock ≤ c0 ∧ (ss ++ (leftOf es seen).toList.map fun e => wrD e.key).Perm ks ∧ J ss wr)
    (fun _ wr => itLeft es W.heap.size wr)
  case atStart =>
    refine ⟨#[], clock, [], hr0, (hg0.block b (by have := hW.size; omega) (by simp)).trans hb, Nat.le_refl _, ?_, hJ [] W w0 none h0 hg0 hd0 (fun r e => by cases e)⟩
    rw [left_start, List.nil_append, ← hks]
  case round =>
    obtain ⟨seen, c0, ss, hr, hb2, hc, hp, hJs⟩ := hrel
    gi_wp2_with (first
      | (gi_at_next; refine nextIn _ rfl _ rfl b W.heap.size clock c0 seen es clock rfl hr hb2 hS.1 hc hS.2 ?_ ?_)
      | gi_in)
    · intro hz
      gi_wp2
      go_end0
      refine ⟨⟨_, rfl⟩, ss, ?_, hJs⟩
      have : (leftOf es seen).toList = [] := by rw [hz]
      rw [this, List.map_nil, List.append_nil] at hp
      exact hp
    · intro e he w2 hr2 hb3 hg2 hd2 hen
      have he' : e ∈ (leftOf es seen).toList := Array.mem_def.1 he
      have hem : e ∈ es.toList := by
        unfold leftOf at he'
        rw [Array.toList_filter] at he'
        exact (List.mem_filter.1 he').1
      have hst := (left_step he' hS.2).map fun e => wrD e.key
      have hkx := hkv e hem
      rw [List.map_cons] at hst
      generalize wrD e.key = x at hkx hst
      rw [hkx] at hen ⊢
      have hwalk : ∀ r', some W.heap.size = some r' → W.heap.size ≤ r' ∧ ∃ ob : Obj, wr.heap[r']? = some ob ∧ ob.isWalk = true := fun r' e => by
        cases e
        exact ⟨Nat.le_refl _, _, hr, rfl⟩
      have hJ2 : J ss w2 := hJ ss wr w2 (some W.heap.size) hJs hg2 hd2 hwalk
      obtain ⟨w3, hw3⟩ : ∃ w3, w2.alloc (.cells #[.int .u32 x.1.val, .int .u32 x.2.val] 37) = w3 := ⟨_, rfl⟩
      have hg3 : w2.grownBy w3 none := by rw [← hw3]; exact ⟨rfl, rfl, rfl, by simp, fun i hi _ => Below.heap_alloc w2 _ i hi⟩
      have hJ3 : J ss w3 := hJ ss w2 w3 none hJ2 hg3 (by rw [← hw3]; exact Nat.le_refl _) (fun r e => by cases e)
      have hlen : ss.length < ks.length := by
        have h1 := hp.length_eq
        have h2 := hst.length_eq
        rw [List.length_append] at h1
        rw [List.length_cons] at h2
        omega
      obtain ⟨fn, tmps, assign, body, hy, hR⟩ := hY ss x w3 hJ3 hlen
      have hr3 : w3.heap[W.heap.size]? = some (.mapIter (some b) clock (seen.push e.born) clock) := (hg3.block _ (Array.getElem?_eq_some_iff.1 hr2).1 (by simp)).trans hr2
      have hb4 : w3.heap[b]? = some (.map es clock) := (hg3.block _ (Array.getElem?_eq_some_iff.1 hb3).1 (by simp)).trans hb3
      subst hw3
      clear hg3
      gi_wp2
      refine hR.mono ?_
      rintro e' W3 ⟨rfl, hJ4, hk4⟩
      gi_wp2
      have hr5 := hk4.same _ _ hr3 rfl
      have hb5 := hk4.same _ _ hb4 rfl
      go_roundw
      case rel => exact ⟨_, _, ss ++ [x], hr5, hb5, Nat.le_refl _, by rw [List.append_assoc]; exact (hst.symm.append_left ss).trans hp, hJ4⟩
      case measure =>
        rw [itLeft_eq hr5, itLeft_eq hr]
        have := hst.length_eq
        rw [List.length_cons, List.length_map, List.length_map, Array.length_toList, Array.length_toList] at this
        omega
end Go.Proofs.YtlkdkbdgnjcopaaGreat
namespace Go.Proofs.YtlkdkbdgnjcopaaGreat
open Go.RowKit Go.Maps Go.Shelf
open Go.Own (rangeIn nextIn appendIn AbidesD GivesD)
abbrev wr2 (x : Wr) : List Value := [.int .u32 x.1.val, .int .u32 x.2.val]
def wrV2 (l : List Wr) : List Value := (l.map wr2).flatten
theorem wrV2_snoc (l : List Wr) (x : Wr) : wrV2 (l ++ [x]) = wrV2 l ++ wr2 x := by simp [wrV2]
theorem iWire : (Tryz.prog.info? 37).map (fun i => (i.zero, i.size, i.bytes)) = some (some (.agg #[.int .u32 0, .int .u32 0]), 2, 8) := by kernel_rfl
def apAssign : Code := (Code.region 2 #[{ dst := some 5, op := Op.alloc 37, type := 0, pos := "iter.go:51", after := #[], guard := none },
  { dst := none, op := Op.store 37 (Operand.tmp 5) (Operand.tmp 7), type := 0, pos := "iter.go:51", after := #[{ on := 0, ground := Ground.data }, { on := 0, ground := Ground.phase }], guard := none }] false)
def apBody : Code := (Code.block 1 (Code.region 3 #[{ dst := some 8, op := Op.load 64 (Operand.tmp 2), type := 64, pos := "iter.go:52", after := #[], guard := none },
  { dst := some 9, op := Op.load 37 (Operand.tmp 5), type := 37, pos := "iter.go:52", after := #[], guard := none },
  { dst := some 10, op := Op.buildSlice 64 1 #[(0, Operand.tmp 9)], type := 64, pos := "iter.go:52", after := #[{ on := 1, ground := Ground.data }], guard := none },
  { dst := some 11, op := Op.call { callee := Callee.builtin Builtin.append, args := #[Operand.tmp 8, Operand.tmp 10], argTypes := #[64, 64] }, type := 64, pos := "iter.go:52", after := #[{ on := 0, ground := Ground.data }, { on := 2, ground := Ground.data }], guard := none },
  { dst := none, op := Op.store 64 (Operand.tmp 2) (Operand.tmp 11), type := 0, pos := "iter.go:52", after := #[{ on := 3, ground := Ground.data }, { on := 3, ground := Ground.chain }, { on := 0, ground := Ground.phase }, { on := 1, ground := Ground.phase }, { on := 2, ground := Ground.phase }, { on := 3, ground := Ground.phase }], guard := none }] false))
def apRec (fn : FuncId) (sv : Value) (Bs D : Nat) (st : LoopState) (pend : Option Code) : Loop :=
  { state := st, pending := pend, fn, tmps := #[.slice none 0 0, sv, .pointer (some ⟨Bs, 0, none⟩), undef, .slice none 0 0, undef, sv, undef, undef, undef, undef, undef, undef], params := #[7], assign := apAssign, body := apBody, defers := D }
structure ApAt (w0 : World) (fn : FuncId) (sv : Value) (Bs l D : Nat) (ss : List Wr) (W : World) : Prop where
  box : ∃ v, W.heap[Bs]? = some (.cells #[v] 64 (0, 0)) ∧ W.ownsRow w0.heap.size 37 2 v ss.length (wrV2 ss)
  L : W.heap[l]? = some (.loop (apRec fn sv Bs D .ready none))
  K : W.heap[D]? = some (.deferred (some []))
  below : Below w0.heap.size w0 W
  drawn : w0.drawn ≤ W.drawn
theorem ownsRow_abides {W W' : World} {row : Option Nat} {base : Nat} {e : TypeId} {size : Nat} {v : Value} {k : Nat} {xs : List Value} (h : W.ownsRow base e size v k xs) (hg : W.grownBy W' row)
    (hrow : ∀ r, row = some r → ∃ o : Obj, W.heap[r]? = some o ∧ o.isWalk = true) : W'.ownsRow base e size v k xs := by
  refine h.kept hg ?_
  rcases h.2 with ⟨rfl, _⟩ | ⟨g, cap, cur, rfl, _, hgb, _⟩
  · exact .inl rfl
  · refine .inr fun e' => ?_
    obtain ⟨o, ho, hw⟩ := hrow g (by simpa [Value.ownBlock] using e'.symm)
    rw [hgb] at ho; cases ho; cases hw
theorem ap_abides (w0 : World) (fn : FuncId) (sv : Value) (Bs l D B : Nat) (hB : w0.heap.size ≤ B) : AbidesD B (ApAt w0 fn sv Bs l D) := fun s W W' row h hg hdr hrow => by
  have hrow' : ∀ r, row = some r → ∃ o : Obj, W.heap[r]? = some o ∧ o.isWalk = true := fun r e => (hrow r e).2
  obtain ⟨v, hv, hr⟩ := h.box
  exact ⟨⟨v, (grownBy_keeps hg hrow' hv rfl).trans hv, ownsRow_abides hr hg hrow'⟩, (grownBy_keeps hg hrow' h.L rfl).trans h.L, (grownBy_keeps hg hrow' h.K rfl).trans h.K,
    h.below.grown hg h.below.size (fun k e => Nat.le_trans hB (hrow k e).1), Nat.le_trans h.drawn hdr⟩
theorem YZ (W : World) (l : Nat) (o : Obj) : W.grownBy (W.putObj l o) (some l) :=
  ⟨rfl, rfl, rfl, by simp, fun k _ hk => World.putObj_heap_other (fun e => hk (by rw [e]))⟩
theorem grownBy_set0 (W : World) (b : Nat) (v : Value) : W.grownBy (W.setCell ⟨b, 0, none⟩ v) (some b) :=
  ⟨rfl, rfl, rfl, (KeepsWalks.setCell W _ v).size, fun k _ hk => Below.heap_setCell _ _ _ k (fun e => hk (by rw [e]))⟩
theorem ownsRow_other {W : World} {base : Nat} {e : TypeId} {size : Nat} {v : Value} {k : Nat} {xs : List Value} (h : W.ownsRow base e size v k xs) {j : Nat} {o : Obj} (hj : W.heap[j]? = some o) (hno : ∀ cur, o ≠ .cells cur e (0, 0)) :
    v.ownBlock = none ∨ v.ownBlock ≠ some j := by
  rcases h.2 with ⟨rfl, _⟩ | ⟨g, cap, cur, rfl, _, hgb, _⟩
  · exact .inl rfl
  · refine .inr fun e' => ?_
    have : g = j := by simpa [Value.ownBlock] using e'
    subst this; rw [hgb] at hj; cases hj; exact hno cur rfl
theorem cell_of_box {W : World} {B : Nat} {v : Value} {t : TypeId} (h : W.heap[B]? = some (.cells #[v] t (0, 0))) : W.cell? ⟨B, 0, none⟩ = some v ∧ W.frozen? ⟨B, 0, none⟩ = false := by
  constructor <;> simp [World.cell?, World.frozen?, h]
theorem set_box {W : World} {B : Nat} {v : Value} {t : TypeId} (v' : Value) (h : W.heap[B]? = some (.cells #[v] t (0, 0))) : (W.setCell ⟨B, 0, none⟩ v').heap[B]? = some (.cells #[v'] t (0, 0)) := by
  obtain ⟨hlt, hk⟩ := Array.getElem?_eq_some_iff.1 h
  show (W.heap.modify B _)[B]? = _
  rw [Array.getElem?_eq_getElem (by rw [Array.size_modify]; exact hlt), Array.getElem_modify_self, hk]
  rfl
theorem ownsRow_no_walk {W : World} {base : Nat} {e : TypeId} {size : Nat} {v : Value} {k : Nat} {xs : List Value} (h : W.ownsRow base e size v k xs) : ∀ (j : Nat) (o : Obj), v.ownBlock = some j → W.heap[j]? = some o → o.isWalk = false := by
  intro j o hj ho
  rcases h.2 with ⟨rfl, _⟩ | ⟨g, cap, cur, rfl, _, hgb, _⟩
  · simp [Value.ownBlock] at hj
  · have : g = j := by simpa [Value.ownBlock] using hj
    subst this; rw [hgb] at ho; cases ho; rfl
theorem cell_two_new (w : World) (x y : Value) (t : TypeId) : ∀ j u, [x, y][j]? = some u → (w.alloc (.cells #[x, y] t)).cell? ((⟨w.heap.size, 0, none⟩ : Addr).add j) = some u := by
  intro j u hj
  have h := World.alloc_heap_new w (.cells #[x, y] t)
  have e : ∀ i, (⟨w.heap.size, 0, none⟩ : Addr).add i = ⟨w.heap.size, i, none⟩ := fun i => by
    unfold Addr.add
    split
    · rename_i h0; rw [h0]
    · simp
  rw [e]
  unfold World.cell?
  simp only [if_true, h]
  match j, hj with
  | 0, hj => simpa using hj
  | 1, hj => simpa using hj
  | j + 2, hj => simp at hj
theorem one_two (x : Wr) : ∀ u ∈ wr2 x, u.oneCell' = true := fun u hu => by
  rcases List.mem_cons.1 hu with rfl | hu
  · rfl
  · rcases List.mem_cons.1 hu with rfl | hu
    · rfl
    · cases hu
set_option maxRecDepth 100000 in
set_option maxHeartbeats 2000000 in
theorem apYield (F : Fence) (m : Nat) (w0 : World) (fn : FuncId) (hfn : F.fn fn) (sv : Value) (Bs l D : Nat) (hBl : Bs ≠ l) (hDl : D ≠ l) (hDB : D ≠ Bs) (h0B : w0.heap.size ≤ Bs) (h0l : w0.heap.size ≤ l)
    (N : Nat) (hN : N ≤ maxLen) (hNb : N * 8 ≤ 140737488355328) (ss : List Wr) (x : Wr) (W : World) (h : ApAt w0 fn sv Bs l D ss W) (hlen : ss.length < N) :
    YieldAt F m Tryz.prog l #[wrV x] W fun e W' => e = .returned (.bool true) ∧ ApAt w0 fn sv Bs l D (ss ++ [x]) W' ∧ KeepsWalks W W' := by
  obtain ⟨i0, hi, hz0, hz1, hz2⟩ := info_parts iWire
  obtain ⟨v, hv, hrow⟩ := h.box
  refine ⟨fn, #[.slice none 0 0, sv, .pointer (some ⟨Bs, 0, none⟩), undef, .slice none 0 0, undef, sv, wrV x, undef, undef, undef, undef, undef], apAssign, apBody, by simpa [apRec] using run_yield (P := Tryz.prog) (args := #[wrV x]) h.L rfl, roundIn_of_wpIn hfn ?_⟩
  have hl : l < W.heap.size := (Array.getElem?_eq_some_iff.1 h.L).1
  have hBlt0 : Bs < W.heap.size := (Array.getElem?_eq_some_iff.1 hv).1
  have hDlt0 : D < W.heap.size := (Array.getElem?_eq_some_iff.1 h.K).1
  obtain ⟨W1, hW1⟩ : ∃ W1, W.alloc (.cells #[.int .u32 x.1.val, .int .u32 x.2.val] 37) = W1 := ⟨_, rfl⟩
  have hg1 : W.grownBy W1 none := by rw [← hW1]; exact ⟨rfl, rfl, rfl, by simp, fun i hi _ => Below.heap_alloc W _ i hi⟩
  have hk1 : KeepsWalks W W1 := by rw [← hW1]; exact KeepsWalks.alloc _ _
  have hs1 : W1.heap.size = W.heap.size + 1 := by rw [← hW1]; simp
  have hc1 : W1.heap[W.heap.size]? = some (.cells #[.int .u32 x.1.val, .int .u32 x.2.val] 37 (0, 0)) := by rw [← hW1]; exact World.alloc_heap_new W _
  have hL1 : W1.heap[l]? = some (.loop (apRec fn sv Bs D .ready none)) := (hg1.block l hl (by simp)).trans h.L
  have hbr := run_beginRound (P := Tryz.prog) hL1 rfl
  obtain ⟨W2, hW2⟩ : ∃ W2, W1.putObj l (.loop { apRec fn sv Bs D .ready none with state := .busy }) = W2 := ⟨_, rfl⟩
  rw [hW2] at hbr
  have hg2 : W1.grownBy W2 (some l) := by rw [← hW2]; exact YZ _ _ _
  have hk2 : KeepsWalks W1 W2 := by rw [← hW2]; exact KeepsWalks.putObj _ hL1 rfl
  unfold apAssign
  gi_wp2_with (rw [Oper.semAt_eq _ _ _ (fun c h => by cases h)]; go_simp; try go_bits)
  clear hbr
  have hl1 : l < W1.heap.size := by omega
  have hv1 : W1.heap[Bs]? = some (.cells #[v] 64 (0, 0)) := (hg1.block Bs hBlt0 (by simp)).trans hv
  have hK1 : W1.heap[D]? = some (.deferred (some [])) := (hg1.block D hDlt0 (by simp)).trans h.K
  have hrow1 : W1.ownsRow w0.heap.size 37 2 v ss.length (wrV2 ss) := by rw [← hW1]; exact hrow.alloc _
  have hv2 : W2.heap[Bs]? = some (.cells #[v] 64 (0, 0)) := by rw [← hW2]; exact (World.putObj_heap_other hBl).trans hv1
  have hK2 : W2.heap[D]? = some (.deferred (some [])) := by rw [← hW2]; exact (World.putObj_heap_other hDl).trans hK1
  have hL2 : W2.heap[l]? = some (.loop { apRec fn sv Bs D .ready none with state := .busy }) := by rw [← hW2]; exact World.putObj_heap_same hl1
  have hx2 : W2.heap[W.heap.size]? = some (.cells #[.int .u32 x.1.val, .int .u32 x.2.val] 37 (0, 0)) := by rw [← hW2]; exact (World.putObj_heap_other (by omega)).trans hc1
  have hrow2 : W2.ownsRow w0.heap.size 37 2 v ss.length (wrV2 ss) := hrow1.kept hg2 (ownsRow_other hrow1 hL1 (fun cur e => by cases e))
  have hb2 : Below w0.heap.size w0 W2 := (h.below.grown hg1 h.below.size (fun k e => by cases e)).grown hg2 (by have := h.below.size; omega) (fun k e => by cases e; exact h0l)
  have hs2 : W2.heap.size = W1.heap.size := by rw [← hW2]; simp
  obtain ⟨hc2, hf2⟩ := cell_of_box hv2
  have hx20 : W2.cell? ⟨W.heap.size, 0, none⟩ = some (.int .u32 x.1.val) := by simp [World.cell?, hx2]
  have hx21 : W2.cell? ⟨W.heap.size, 1, none⟩ = some (.int .u32 x.2.val) := by simp [World.cell?, hx2]
  have hBlt : Bs < W2.heap.size := (Array.getElem?_eq_some_iff.1 hv2).1
  have hl2 : l < W2.heap.size := (Array.getElem?_eq_some_iff.1 hL2).1
  have hDlt : D < W2.heap.size := (Array.getElem?_eq_some_iff.1 hK2).1
  have ne_of : ∀ {j : Nat} {o : Obj}, W2.heap[j]? = some o → (∀ cur, o ≠ .cells cur 37 (0, 0)) → some j ≠ v.ownBlock := fun hj hno => by
    rcases ownsRow_other hrow2 hj hno with e | e
    · rw [e]; simp
    · exact fun e' => e e'.symm
  have hs3 : W.heap.size < W2.heap.size := by omega
  have hd2 : W2.drawn = W.drawn := by rw [← hW2, ← hW1]; rfl
  clear hW1 hW2 hc1 hs1 hs2 hv1 hrow1
  unfold apBody
  gi_wp2_with (first
    | (gi_at_builtin; refine appendIn _ rfl _ _ 64 rfl w0.heap.size 37 i0 (.agg #[.int .u32 0, .int .u32 0]) 2 8 Tryz.underlying64 hi hz0 hz1 hz2 rfl (by decide) _ _ _ rfl (hrow2.alloc _) ⟨W2.heap.size, 0, none⟩ 1 1 (wr2 x) rfl rfl (cell_two_new _ _ _ _) (one_two x) (by omega) (by omega) (by have := hb2.size; simp; omega) ?_; intro v' w3 hown' hg3 hd3
       have hv3 : w3.heap[Bs]? = some (.cells #[v] 64 (0, 0)) := (hg3.block Bs (by simp; omega) (ne_of hv2 (fun cur e => by cases e))).trans ((Below.heap_alloc _ _ Bs hBlt).trans hv2)
       obtain ⟨hc3, hf3⟩ := cell_of_box hv3
       obtain ⟨g', cap', cur', rfl, hbase', hgb', hr1, hr2, hr3, hr4⟩ : ∃ g' cap' cur', v' = .slice (some ⟨g', 0, none⟩) (ss.length + 1) cap' ∧ w0.heap.size ≤ g' ∧ w3.heap[g']? = some (.cells cur' 37 (0, 0)) ∧ ss.length + 1 ≤ cap' ∧ cap' ≤ maxLen ∧ cur'.size = cap' * 2 ∧ cur'.toList.take ((ss.length + 1) * 2) = wrV2 ss ++ wr2 x := by
         rcases hown'.2 with ⟨_, h0⟩ | h'
         · exact absurd h0 (by omega)
         · exact h'
       go_frame)
    | (rw [Oper.semAt_eq _ _ _ (fun c h => by cases h)]; go_simp; try go_bits))
  have hg3' : (W2.alloc (.cells #[.int .u32 x.1.val, .int .u32 x.2.val] 37)).grownBy w3 v.ownBlock := hg3
  have hL3 : w3.heap[l]? = some (.loop { apRec fn sv Bs D .ready none with state := .busy }) := (hg3'.block l (by simp; omega) (ne_of hL2 (fun cur e => by cases e))).trans ((Below.heap_alloc _ _ l hl2).trans hL2)
  have hK3 : w3.heap[D]? = some (.deferred (some [])) := (hg3'.block D (by simp; omega) (ne_of hK2 (fun cur e => by cases e))).trans ((Below.heap_alloc _ _ D hDlt).trans hK2)
  obtain ⟨w4, hw4⟩ : ∃ w4, w3.setCell ⟨Bs, 0, none⟩ (.slice (some ⟨g', 0, none⟩) (ss.length + 1) cap') = w4 := ⟨_, rfl⟩
  rw [hw4]
  have hg4 : w3.grownBy w4 (some Bs) := by rw [← hw4]; exact grownBy_set0 _ _ _
  have hv4 : w4.heap[Bs]? = some (.cells #[.slice (some ⟨g', 0, none⟩) (ss.length + 1) cap'] 64 (0, 0)) := by rw [← hw4]; exact set_box _ hv3
  have hL4 : w4.heap[l]? = some (.loop { apRec fn sv Bs D .ready none with state := .busy }) := (hg4.block l (Array.getElem?_eq_some_iff.1 hL3).1 (fun e => hBl (by cases e; rfl))).trans hL3
  have hK4 : w4.heap[D]? = some (.deferred (some [])) := (hg4.block D (Array.getElem?_eq_some_iff.1 hK3).1 (fun e => hDB (by cases e; rfl))).trans hK3
  have hrow4 := hown'.kept hg4 (ownsRow_other hown' hv3 (fun cur e => by cases e))
  have hb3 : Below w0.heap.size w0 w3 := (hb2.alloc hb2.size _).grown hg3' (by have := hb2.size; simp; omega) (fun k e => (hrow2.lt k e).1)
  have hb4 : Below w0.heap.size w0 w4 := hb3.grown hg4 hb3.size (fun k e => by cases e; exact h0B)
  have hk4 : KeepsWalks W w4 := (((hk1.trans hk2).trans (KeepsWalks.alloc _ _)).trans (KeepsWalks.of_grownBy hg3' (ownsRow_no_walk (hrow2.alloc _)))).trans (by rw [← hw4]; exact KeepsWalks.setCell _ _ _)
  have hd3' : (W2.alloc (.cells #[.int .u32 x.1.val, .int .u32 x.2.val] 37)).drawn ≤ w3.drawn := hd3
  have hd4 : w0.drawn ≤ w4.drawn := by
    rw [← hw4]
    refine Nat.le_trans h.drawn (Nat.le_trans (Nat.le_of_eq ?_) hd3')
    exact hd2.symm
  clear hw4
  refine ⟨_, _, run_endRound none hL4, rfl, ⟨⟨_, (World.putObj_heap_other hBl).trans hv4, ?_⟩, World.putObj_heap_same (Array.getElem?_eq_some_iff.1 hL4).1, (World.putObj_heap_other hDl).trans hK4, hb4.grown (YZ _ _ _) hb4.size (fun k e => by cases e; exact h0l), hd4⟩, hk4.trans (KeepsWalks.putObj _ hL4 rfl)⟩
  have := hrow4.kept (YZ w4 l (.loop { { apRec fn sv Bs D .ready none with state := .busy } with state := if (none : Option Code).isNone then .ready else .done, pending := none })) (ownsRow_other hrow4 hL4 (fun cur e => by cases e))
  rw [wrV2_snoc, List.length_append]
  exact this
set_option maxRecDepth 100000 in
set_option maxHeartbeats 2000000 in
theorem appendSeq_in (F : Fence) (n : Nat) (h11 : F.fn 130) (hro : F.round = none) (hn : 2 ≤ n) (g : Nat) (lb : Array Value) (hFg : F.fn g) (eg : ∀ args w, (callFunc g args).run Tryz.prog w = .ok (.enter g args) w)
    (S : List Wr → Prop) (N : Nat) (hN : N ≤ maxLen) (hNb : N * 8 ≤ 140737488355328) (w : World) (hseq : GivesD F (n - 1) Tryz.prog g lb wrV S N w) :
    CallsIn F n Tryz.prog 130 #[.slice none 0 0, .func (.func g) #[] lb] w fun e w' => ∃ (v : Value) (ss : List Wr), e = .returned v ∧ S ss ∧ w'.ownsRow w.heap.size 37 2 v ss.length (wrV2 ss) ∧ Below w.heap.size w w' ∧ w.drawn ≤ w'.drawn := by
  have h1 : 1 ≤ n := by omega
  refine callsIn_of_wp_marks Tryz.func130 rfl h11 ?_ hro
  simp only [Tryz.ntmps130, List.size_toArray, List.length_cons, List.length_nil, Nat.reduceAdd, Nat.reduceSub, Array.replicate_succ, Array.replicate_zero, List.push_toArray, List.append_toArray, List.nil_append, List.cons_append]
  gi_wp2
  refine wpIn_rangeFunc ?_
  intro fn hfn
  rw [hro]
  obtain ⟨W0, hW0⟩ : ∃ W0, w.alloc (.cells #[.slice none 0 0] 64) = W0 := ⟨_, rfl⟩
  have hs0 : W0.heap.size = w.heap.size + 1 := by rw [← hW0]; simp
  have hv0 : W0.heap[w.heap.size]? = some (.cells #[.slice none 0 0] 64 (0, 0)) := by rw [← hW0]; exact World.alloc_heap_new w _
  have hb0 : Below w.heap.size w W0 := by rw [← hW0]; exact (Below.refl _ w).alloc (Nat.le_refl _) _
  rw [hW0]
  obtain ⟨W1, hW1⟩ : ∃ W1, (W0.alloc (.deferred (some []))).alloc (.loop (apRec fn (.func (.func g) #[] lb) w.heap.size W0.heap.size .ready none)) = W1 := ⟨_, rfl⟩
  have hold : ∀ k, k < W0.heap.size → W1.heap[k]? = W0.heap[k]? := fun k hk => by
    rw [← hW1]; exact (Below.heap_alloc _ _ k (by simp; omega)).trans (Below.heap_alloc _ _ k hk)
  have hb1 : Below w.heap.size w W1 := by rw [← hW1]; exact (hb0.alloc hb0.size _).alloc (by have := hb0.size; simp; omega) _
  have hs1 : W1.heap.size = W0.heap.size + 2 := by rw [← hW1]; simp
  have hM : ApAt w fn (.func (.func g) #[] lb) w.heap.size (W0.heap.size + 1) W0.heap.size [] W1 :=
    ⟨⟨_, (hold w.heap.size (by omega)).trans hv0, ⟨rfl, .inl ⟨rfl, rfl⟩⟩⟩,
     by rw [← hW1]; have := World.alloc_heap_new (W0.alloc (.deferred (some []))) (.loop (apRec fn (.func (.func g) #[] lb) w.heap.size W0.heap.size .ready none)); rwa [World.size_alloc] at this,
     by rw [← hW1]; exact (Below.heap_alloc _ _ _ (by simp)).trans (World.alloc_heap_new W0 _), hb1, by rw [← hW1, ← hW0]; exact Nat.le_refl _⟩
  refine ⟨W0.heap.size + 1, [{ target := .collected W0.heap.size, args := #[] }], W1, { target := .fn (.func g) lb, args := #[.func (.yield (W0.heap.size + 1)) #[] #[]] }, W1, g,
    #[.func (.yield (W0.heap.size + 1)) #[] #[]] ++ lb, W1, ?_, ?_, ?_, ?_, fun _ => h1, ?_⟩
  · rw [← hW1]; exact run_enterLoop_outer _ _ _ _ _
  · simp [resolve, go_sem]
  · intro f' hf'; simp [Target.leads] at hf'; subst hf'; exact hFg
  · simp [invoke, go_sem, eg]
  · refine (hseq (W0.heap.size + 1) (ApAt w fn (.func (.func g) #[] lb) w.heap.size (W0.heap.size + 1) W0.heap.size) W1 hb1 (ap_abides _ _ _ _ _ _ _ hb1.size)
      (fun pre x W hJ hl => apYield F (n - 1 - 1) w fn hfn _ w.heap.size (W0.heap.size + 1) W0.heap.size (by omega) (by omega) (by omega) (Nat.le_refl _) (by omega) N hN hNb pre x W hJ hl) hM).mono ?_
    rintro e W2 ⟨⟨v0, rfl⟩, ss, hS, h2⟩
    obtain ⟨v, hv, hrow⟩ := h2.box
    have hend := run_endLoop (P := Tryz.prog) h2.L (by simp [apRec])
    obtain ⟨W3, hW3⟩ : ∃ W3, W2.putObj (W0.heap.size + 1) (.loop { apRec fn (.func (.func g) #[] lb) w.heap.size W0.heap.size .ready none with state := .exhausted }) = W3 := ⟨_, rfl⟩
    rw [hW3] at hend
    have hg3 : W2.grownBy W3 (some (W0.heap.size + 1)) := by rw [← hW3]; exact YZ _ _ _
    have hv3 : W3.heap[w.heap.size]? = some (.cells #[v] 64 (0, 0)) := by rw [← hW3]; exact (World.putObj_heap_other (by omega)).trans hv
    have hK3 : W3.heap[W0.heap.size]? = some (.deferred (some [])) := by rw [← hW3]; exact (World.putObj_heap_other (by omega)).trans h2.K
    have hrow3 := hrow.kept hg3 (ownsRow_other hrow h2.L (fun cur e => by cases e))
    have hb3 : Below w.heap.size w W3 := h2.below.grown hg3 h2.below.size (fun k e => by cases e; omega)
    obtain ⟨hc3, hf3⟩ := cell_of_box hv3
    have hd3 : w.drawn ≤ W3.drawn := by rw [← hW3]; exact h2.drawn
    clear hW3
    refine ⟨none, W3, hend, ?_⟩
    gi_wp2
    rw [← hs0]
    refine ⟨by simp, .inl ⟨_, _, rfl, run_takeDeferred hK3, ?_⟩⟩
    exact ⟨_, results_tmp rfl _ _ _, v, ss, rfl, hS, hrow3.kept (YZ _ _ _) (ownsRow_other hrow3 hK3 (fun cur e => by cases e)), hb3.grown (YZ _ _ _) hb3.size (fun k e => by cases e; omega), hd3⟩
end Go.Proofs.YtlkdkbdgnjcopaaGreat
namespace Go.Own
section
variable {X : Ctx} {L : AL} {B : BL} {ops : Array Oper} {K : Act → World → Prop} {r : Pl} {k : Kd}
  {x y z : Operand} {d : Nat} {t t2 t' : TypeId} {pos : String} {af : Array Edge} {g : Option (Nat × Bool)}
theorem Ops.callNew {f : FuncId} {args : List Operand} {tys : Array TypeId} {As : List Sl} {α : Type} {J : α → Prop} {R : α → CT} {e : α → Ent} (a : Nat) (hgo : InGo X.P f) (hok : OkM X.P f As [] [] J (fun q => .ct (R q)) (fun q => [(a, e q)])) (hg : gd ops L g = some true) (hargs : evS L args = some As) (hn : Nat.blt d X.n = true)
    (hbor : ∀ gb, X.bor gb → X.S0 gb) (hi : bget B a = none) (hfix : (X.fix.all fun p => (bget B p.1).isSome) = true) (hL : noN a L = true)
    (h : ∀ q, J q → Ops X ops r ((d, .ct (R q)) :: L) ((a, e q) :: B) K) : Ops X ops (.cons ⟨some d, .call { callee := .value (.func f), args := args.toArray, argTypes := tys }, t, pos, af, g⟩ .any r) L B K := by
  refine Ops.callM B (fun j => !Nat.beq j a) hgo hok hg hargs hn hbor (fun j => rfl) (fun j hj => ?_) (fun j hj => ?_) (fun p hp => .inl (List.all_eq_true.1 hfix p hp)) (fun q j hq => ?_) (fun q hq => ?_)
  · have h0 : a ≠ j := fun e => by subst e; rw [hi] at hj; cases hj
    exact ⟨rfl, fun q => by rw [Qh _ _ h0]; rfl⟩
  · have h9 : a ≠ j := fun e => by subst e; rw [Nat.beq_refl] at hj; cases hj
    exact .inr fun q => by rw [Qh _ _ h9]; rfl
  · rcases hq with hq | ⟨_, hq⟩ <;> cases hq
  · rw [keepL_id hL]
    exact h q hq
theorem Entails.front {L' : AL} {B' : BL} (a : Nat) (e : Ent) (hb : bget B a = some e) (h : Entails X L ((a, e) :: bdel B a) L' B') : Entails X L B L' B' := fun x ρ w hI => h x ρ w (hI.bext fun j => by
  by_cases hj : a = j
  · subst hj; rw [Xz, hb]
  · rw [Qh _ _ hj, Zz _ (Ne.symm hj)])
end
end Go.Own
namespace Go.Own
open Go.RowKit
section
variable {X : Ctx} {L : AL} {B : BL} {ops : Array Oper} {K : Act → World → Prop} {r : Pl} {k : Kd}
  {x y z : Operand} {d : Nat} {t t2 t' : TypeId} {pos : String} {af : Array Edge} {g : Option (Nat × Bool)}
theorem Ops.appRow (i : Nat) {j el n bytes : Nat} {zv : Value} {cs : List CT} (m : Nat) (hg : gd ops L g = some true) (hx : ev L x = some (.ct (.ex (.slice none 0 0)))) (hy : ev L y = some (.own j)) (hj : bget B j = some (.row el n cs)) (hT : SlcT X.P t el n bytes zv) (hl : cs.length = m * n) (ho : ones cs = true) (hb : m * bytes ≤ 140737488355328) (hmx : m ≤ 140737488355328) (hN : noN i L = true) (hB : bget B i = none) (hn : Nat.blt d X.n = true)
    (h : Ops X ops r ((d, .own i) :: L) ((i, .row el n cs) :: B) K) : Ops X ops (.cons ⟨some d, .call { callee := .builtin .append, args := #[x, y], argTypes := #[t, t] }, t', pos, af, g⟩ .any r) L B K :=
  Ops.mkE (k := .any) rfl hg rfl hn hN hB (fun a ρ w hI => by
    have hy1 : a.eval y = ρ j := hI.ev hy
    obtain ⟨nf, h1, h2, h3, h4⟩ := hT.inf
    obtain ⟨m', vs, hown, hc⟩ := (hI.ent j _ hj).1
    have hlv := hc.length
    rw [hown.1, hl] at hlv
    have hmm : m' = m := Nat.eq_of_mul_eq_mul_right hT.pos hlv
    subst hmm
    have hmax : 0 + m' ≤ maxLen := by simp only [maxLen]; omega
    have key : ∃ v' w', (Builtin.append_ #[t, t] t' #[.slice none 0 0, ρ j]).run X.P w = .ok v' w' ∧ w'.ownsRow 0 el n v' (0 + m') ([] ++ vs) ∧ w.grownBy w' (Value.slice none 0 0).ownBlock ∧ (blk v' = blk (.slice none 0 0) ∨ ∀ g, blk v' = some g → w.heap.size ≤ g) := by
      have how : w.ownsRow 0 el n (.slice none 0 0) 0 [] := World.ownsRow_nil _ _ _ _
      rcases hown.2 with ⟨e1, e2⟩ | ⟨gb, cap, cur, e1, e2⟩
      · have e0 : vs = [] ∧ m' = 0 := by
          have h5 := hown.1
          rw [e2, Nat.zero_mul] at h5
          exact ⟨List.length_eq_zero_iff.1 h5, e2⟩
        obtain ⟨e3, e4⟩ := e0
        subst e3; subst e4
        rw [e1]
        exact ⟨.slice none 0 0, w, by simp [Builtin.append_, run_underlying hT.und, sizeOf, typeInfo, h1, Builtin.lenOf, Builtin.firstCells], how, ⟨rfl, rfl, rfl, Nat.le_refl _, fun _ _ _ => rfl⟩, .inl rfl⟩
      · rw [e1]
        rw [e1] at hown
        exact run_append_blk (P := X.P) w t t' el nf zv n bytes hT.und h1 h4 h2 h3 hT.zs hT.pos _ 0 [] how ⟨gb, 0, none⟩ m' cap vs hown.1 (hown.cells (g := gb) rfl) (ones_cells ho hc) hmax (by simpa using hb)
    obtain ⟨v', w', r1, r3, r4, r5⟩ := key
    refine ⟨v', w', Zo (args := [x, y]) (fun _ => by
      simp only [List.map_cons, List.map_nil, hI.evx hx, hy1]
      exact Xd r1), ⟨r4.os, r4.tape, r4.output, r4.size, fun q hq => r4.block q hq (fun e => by cases e), run_drawn _ _ r1⟩, fun gb hgb => ?_, fun S' hk => ⟨0 + m', [] ++ vs, r3, hc.mono hk⟩⟩
    rcases r5 with h5 | h5
    · rw [h5] at hgb; cases hgb
    · exact h5 gb hgb) h
theorem Ops.frz {l : Pl} (i : Nat) {e : Ent} (T : Ty) (hi : bget B i = some e) (hT : e.frozen T) (hS : Own.okFix X i) (h : Ops X ops l (frzL i T L) (bdel B i) K) (hf : noFix X i = true := by rfl) : Ops X ops l L B K := Fin.frz i T hi hT hS h hf
end
end Go.Own
namespace Go.Own
variable {P : Program} {n : Nat} {S : BSet} {w0 : World} {B0 : BL} {fx : List Nat} {ρ0 : Nat → Value} {α : Type} {J : α → Prop} {R : α → Sl} {B1 : α → BL} {L : AL} {B : BL}
theorem Is.dropsB {X : Ctx} {a : Act} {ρ : Nat → Value} {w : World} {v : Value} {c : CT} : ∀ (ds : List Nat) {B : BL}, (ds.all fun i => noFix X i) = true → Is X L B a ρ w → c.p (Sof X B ρ) w v → Is X L (ds.foldl bdel B) a ρ w ∧ c.p (Sof X (ds.foldl bdel B) ρ) w v
  | [], _, _, h, hv => ⟨h, hv⟩
  | i :: ds, B, hf, h, hv => by
    rw [List.all_cons, Bool.and_eq_true] at hf
    exact Is.dropsB ds hf.2 (h.dropB i hf.1) (CT.mono (Sof_del i) hv)
theorem Fin.retMCG {fn : Func} {cs : List CT} {rv : List ResultVar} (ds : List Nat) (q : α) (hfn : fn.results = rv.toArray) (hr : AllRes (lentM P n S w0 B0 fx ρ0) L B rv cs) (hR : R q = .ct (retC cs)) (hf : (ds.all fun i => noFix (lentM P n S w0 B0 fx ρ0) i) = true) (hB : ∀ j, bget (B1 q) j = bget (ds.foldl bdel B) j) (hJ : J q) :
    ∀ a ρ w, Is (lentM P n S w0 B0 fx ρ0) L B a ρ w → a.defers = [] ∧ ∃ v, (results fn a.tmps).run P w = .ok v w ∧ Own.postM S w0 ρ0 B0 fx J R B1 (.returned v) w := fun a ρ w hI => by
  obtain ⟨v, h1, h2⟩ := results_run hfn hr hI
  obtain ⟨h3, h4⟩ := Is.dropsB ds hf hI h2
  exact ⟨hI.defers, v, h1, h3.postM q hB hJ (by rw [hR]; exact h4)⟩
theorem Fin.retMC {fn : Func} {cs : List CT} (ds : List Nat) (q : α) (rv : List ResultVar) (hfn : fn.results = rv.toArray) (hr : AllRes (lentM P n S w0 B0 fx ρ0) L B rv cs) (hR : R q = .ct (retC cs)) (hf : (ds.all fun i => noFix (lentM P n S w0 B0 fx ρ0) i) = true) (hB : ∀ j, bget (B1 q) j = bget (ds.foldl bdel B) j) (hJ : J q) :
    Fin (lentM P n S w0 B0 fx ρ0) L B (fun a w => bodyPost P fn (Own.postM S w0 ρ0 B0 fx J R B1) .ret a w) := Fin.retMCG ds q hfn hr hR hf hB hJ
theorem St.cutR {X : Ctx} {c y : Code} {Q : Exit → Act → World → Prop} {α : Type} (J : α → Prop) (Lx : α → AL) (Bx : α → BL) (h1 : ∀ q, J q → St X (Lx q) (Bx q) y Q)
    (h2 : ∀ K : Exit → Act → World → Prop, (∀ q, J q → Fin X (Lx q) (Bx q) (fun a w => K .normal a w)) → (∀ a w, Q .ret a w → K .ret a w) → St X L B c K) : St X L B c (Exit.then (y.wp X.P Q) Q) :=
  h2 _ (fun q hq => h1 q hq) (fun _ _ h => h)
theorem Fin.up {X : Ctx} {K1 K2 : Act → World → Prop} (h : ∀ a w, K1 a w → K2 a w) (h1 : Fin X L B K1) : Fin X L B K2 := fun a ρ w hI => h a w (h1 a ρ w hI)
end Go.Own
namespace Go.Own
open Go.RowKit
variable {X : Ctx} {L : AL} {B : BL} {ops : Array Oper} {K : Act → World → Prop} {r : Pl} {k : Kd}
  {x y z : Operand} {d : Nat} {t t2 t' : TypeId} {pos : String} {af : Array Edge} {g : Option (Nat × Bool)}
def postJ (X : Ctx) (el m : Nat) (J : List CT → Prop) : Ending → World → Prop := fun e w' => ∃ D, J D ∧ postF X el m D e w'
def OkJ (P : Program) (f : FuncId) (As : List CT) (el m : Nat) (J : List CT → Prop) : Prop :=
  ∀ (S : BSet) (w : World) (vs : List Value), (∀ k, w.heap.size ≤ k → S k) → cells S w As vs →
    Calls P f vs.toArray w (postJ { P := P, n := 0, S0 := S, w0 := w, bor := noBor } el m J)
theorem OkJ.enter {P : Program} {f : FuncId} {fn : Func} {c : Code} {As : List CT} {el m : Nat} {J : List CT → Prop} (hf : P.funcs[f]? = some fn) (hb : fn.body = some c) (n : Nat) (hn : fn.ntmps = n) (ha : Nat.ble As.length n = true)
    (h : ∀ S w, St { P := P, n := n, S0 := S, w0 := w, bor := noBor } (argL 0 As) [] c (bodyPost P fn (postJ { P := P, n := n, S0 := S, w0 := w, bor := noBor } el m J))) : OkJ P f As el m J := by
  intro S w vs hS hA
  have hl := hA.length
  have hle := Nat.le_of_ble_eq_true ha
  refine calls_of_wp hf hb ?_
  refine h S w _ (fun _ => undef) w ?_
  have hSof : ∀ k, S k → Sof { P := P, n := n, S0 := S, w0 := w, bor := noBor } [] (fun _ => undef) k := fun k hk => ⟨hk, fun i e hi => by cases hi⟩
  refine ⟨by simp [hn]; omega, rfl, fun d s hd => ?_, (fun i e hi => by cases hi), (fun i j e e' hi => by cases hi), ⟨rfl, rfl, rfl, Nat.le_refl _, fun _ _ _ => rfl, Nat.le_refl _⟩, hS, (fun p hp => by cases hp)⟩
  obtain ⟨v, c', _, h2, rfl, h4⟩ := look_argL hA hd
  have hlt : d < vs.length := by rw [Nat.sub_zero] at h2; exact (List.getElem?_eq_some_iff.1 h2).1
  have : (vs.toArray ++ Array.replicate (fn.ntmps - vs.toArray.size) undef).getD d undef = v := by
    rw [Array.getD_eq_getD_getElem?, Array.getElem?_append_left (by simpa using hlt)]
    rw [Nat.sub_zero] at h2
    simp [h2]
  show c'.p _ w _
  rw [this]
  exact CT.mono (S := S) ⟨Nat.le_refl _, fun k _ hk => ⟨hSof k hk, rfl⟩⟩ h4
theorem Fin.retJ {fn : Func} {s i el m : Nat} {J : List CT → Prop} {D : List CT} (hfn : fn.results = #[.tmp s]) (hs : look L s = some (.own i)) (hi : bget B i = some (.row el m D)) (hb : X.bor = noBor) (hJ : J D) : Fin X L B (fun a w => bodyPost X.P fn (postJ X el m J) .ret a w) := by
  refine Fin.up (fun a w h => ?_) (Fin.retF hfn hs hi hb)
  have h : a.defers = [] ∧ ∃ v, (results fn a.tmps).run X.P w = .ok v w ∧ postF X el m D (.returned v) w := h
  obtain ⟨h1, v, h2, h3⟩ := h
  exact ⟨h1, v, h2, D, hJ, h3⟩
theorem Ops.callJ (i : Nat) {f : FuncId} {el m : Nat} {args : List Operand} {tys : Array TypeId} {As : List CT} {J : List CT → Prop} (hgo : InGo X.P f) (hok : OkJ X.P f As el m J) (hg : gd ops L g = some true) (hargs : evs L args = some As) (hk : k.mk = true) (hN : noN i L = true) (hB : bget B i = none) (hn : Nat.blt d X.n = true)
    (h : ∀ D, J D → Ops X ops r ((d, .own i) :: L) ((i, .row el m D) :: B) K) : Ops X ops (.cons ⟨some d, .call { callee := .value (.func f), args := args.toArray, argTypes := tys }, t, pos, af, g⟩ k r) L B K := fun a ρ w hI => by
  refine wpX_makes k hk ?_
  unfold wpO
  rw [if_pos (Zk (o := ⟨some d, _, t, pos, af, g⟩) hI hg)]
  unfold Oper.wp
  have hrun : (execOp a.eval ⟨some d, .call { callee := .value (.func f), args := args.toArray, argTypes := tys }, t, pos, af, g⟩).run X.P w = .ok (.enter f (args.map a.eval).toArray) w := by
    show (do let D ← resolve a.eval { callee := .value (.func f), args := args.toArray, argTypes := tys } t; invoke D.target D.args : Sem Next).run X.P w = _
    have hf : a.eval (.func f) = .func (.func f) #[] #[] := rfl
    simp only [resolve, hf, Deferred.ofValue, Sem.run_bind, Sem.run_pure, Result.andThen_ok, invoke]
    rw [hgo]
    congr 2
    simp
  rw [hrun]
  refine Calls.mono (hok (Sof X B ρ) w _ hI.freshS (hI.evs hargs)) ?_
  rintro e w' ⟨D, hJ, v, rfl, ⟨n', us, how, hc⟩, h1, hb⟩
  have hW := hI.new (v := v) (e := .row el m (us.map CT.ex)) hN hB hb h1 (fun S' _ => ⟨n', us, how, Z2 _⟩)
  have hR := hW.retype (i := i) (e' := .row el m D) (Xz ..) (by
    rw [ZJ]
    refine ⟨n', us, how, hc.mono ⟨Nat.le_refl _, fun q _ hq => ⟨⟨hq.1.1, fun j e' hj hbk => ?_⟩, rfl⟩⟩⟩
    by_cases hji : j = i
    · subst hji; rw [ZJ] at hbk; exact hq.2 hbk
    · rw [Qh _ _ (Ne.symm hji)] at hj; rw [Zf _ _ hji] at hbk; exact hq.1.2 j e' hj hbk) rfl
  have hbs : bset ((i, Ent.row el m (us.map CT.ex)) :: B) i (.row el m D) = (i, .row el m D) :: B := by simp only [bset, Nat.beq_refl]
  rw [hbs] at hR
  exact ⟨hb, h D hJ _ _ w' (hR.put (s := .own i) (Xf hn) (by show _ = upd ρ i _ i; rw [ZJ]))⟩
theorem Fin.frzMs (i dd : Nat) {v : Value} {kv : List (Value × CT)} (hi : bget B i = some (.mpx v kv)) (hd : look L dd = some (.ct (.ex v))) (hS : okFix X i) (h : Fin X ((dd, .ct (.fr (mapT kv))) :: L) (bdel B i) K) (hf : noFix X i = true := by rfl) : Fin X L B K := fun a ρ w hI => by
  obtain ⟨h2, h3⟩ := (hI.ent i _ hi).1
  have hv : (mapT kv).p (Sof X (bdel B i) ρ) w (ρ i) := hI.frozen_val (e2 := .mp kv) hi rfl h3 (hI.okFix hi hS)
  have h1 : a.tmps.getD dd undef = v := hI.slot dd _ hd
  exact h a ρ w ((hI.dropB i hf).slotx (s := .ct (.fr (mapT kv))) (by rw [h1, ← h2]; exact hv))
theorem St.frzMs {c : Code} {Q : Exit → Act → World → Prop} (i dd : Nat) {v : Value} {kv : List (Value × CT)} (hi : bget B i = some (.mpx v kv)) (hd : look L dd = some (.ct (.ex v))) (hS : okFix X i) (h : St X ((dd, .ct (.fr (mapT kv))) :: L) (bdel B i) c Q) (hf : noFix X i = true := by rfl) : St X L B c Q := Fin.frzMs i dd hi hd hS h hf
end Go.Own
namespace Go.Proofs.YtlkdkbdgnjcopaaGreat
open Go.Own Go.Limbs
attribute [local irreducible] St Ops Go.Own.Fin Ok OkB OkN OkT OkL OkF
theorem goCompact_Tk : InGo Tryz.prog 125 := InGo.of Tryz.func125 (by kernel_rfl) (by kernel_rfl)
set_option maxHeartbeats 4000000 in
theorem Compact_Tk_ok (l : List Tk) (hl : l.length ≤ 100000) : OkT Tryz.prog 125 86 3 (tks l) [] (tks (dd l)) := by
  refine OkT.enter Tryz.func125 rfl _ Tryz.ntmps125 rfl ?_
  intro S w h0
  (refine Qw (Qq fun K hK => ?_); refine Qv rfl rfl rfl ?_; refine Qj (hK _ _ (Qz (Qw (Qw ?_)))); clear hK K; refine Qq (fun K hK => ?_); refine Qx rfl rfl rfl ?_)
  refine Yj l.length rfl rfl rfl (by decide) (tks_len l) (by with_reducible exact sTks.und) rfl ?_
  (refine Qk ilss rfl rfl rfl rfl ?_; refine Qj (hK _ _ (Qz ?_)); clear hK K)
  refine Q2 rfl (fun h => ?_) (fun h => ?_)
  · rw [dd_small (l := l) (by omega)]
    (refine Qw (Qq fun K hK => ?_); refine Qx rfl rfl rfl ?_; refine Qv rfl rfl rfl ?_; refine Qj (hK _ _ (Qz (Q0 (QY ?_)))); clear hK K)
    refine YV rfl rfl rfl
  (refine Q1 (Qz (Qw (Qw (Qq fun K hK => ?_)))); refine Qv rfl rfl rfl ?_; refine Qj (hK _ _ (Qz (Q4 ?_))); clear hK K)
  refine Xj (α := Nat) (fun i => i + 1 ≤ l.length ∧ dd (l.take (i + 1)) = l.take (i + 1))
    (fun i => [(0, .own 0), (3, .ct (intC (i + 1)))]) (fun _ => [(0, .row 86 3 (tks l))]) (fun i => l.length - i) 0 ⟨by omega, dd_small (by rw [List.length_take]; omega)⟩ (by exact QX rfl ⟨rfl, rfl, trivial⟩) ?_
  rintro i ⟨hi, hd⟩
  try dsimp only at hi hd
  try dsimp only
  (refine Qw (Qw (Qq fun K hK => ?_)); refine Qx rfl rfl rfl ?_; refine Qx rfl rfl rfl ?_)
  refine Yj l.length rfl rfl rfl (by decide) (tks_len l) (by with_reducible exact sTks.und) rfl ?_
  (refine Qk ilss rfl rfl rfl rfl ?_; refine Qj (hK _ _ (Qz ?_)); clear hK K)
  refine Q2 rfl (fun h => ?_) (fun h => ?_)
  rotate_left
  · have e : dd l = l := by
      have := hd
      rw [List.take_of_length_le (by omega)] at this
      exact this
    rw [e]
    (refine Qp (Qz (Qw (Qq fun K hK => ?_))); refine Qx rfl rfl rfl ?_; refine Qv rfl rfl rfl ?_; refine Qj (hK _ _ (Qz (Q0 ?_))); clear hK K)
    refine YV rfl rfl rfl
  (refine Q1 (Qz (Qw (Q4 (Qw ?_)))))
  refine Xu (by with_reducible exact mixed) 10 (.p 0 (.p 1 (.p 2 (.p 4 (.p 5 (.p 6 (.p 7 (.f 3 (.f 8 (.p 9 .done)))))))))) (by kernel_rfl) (fun K hK => ?_)
  (refine Qx rfl rfl rfl ?_; refine Qx rfl rfl rfl ?_)
  refine Zv l.length rfl rfl rfl (tks_len l) rfl (by with_reducible exact sTks) (by omega) (by omega) rfl ?_
  (refine Qx rfl rfl rfl ?_; refine Qx rfl rfl rfl ?_; refine Qk (isub (by omega) (by omega)) rfl rfl rfl rfl ?_)
  refine Zv l.length rfl rfl rfl (tks_len l) rfl (by with_reducible exact sTks) (by omega) (by omega) rfl ?_
  skip
  refine ldE tkCs tk0 tk_len rfl rfl rfl rfl rfl (by omega) (by with_reducible exact Zl) rfl ?_
  refine ldE tkCs tk0 tk_len rfl rfl rfl rfl rfl (by omega) (by with_reducible exact Zl) rfl ?_
  rw [show ((i : Int) + 1).toNat = i + 1 by omega, show ((i : Int) + 1 - 1).toNat = i by omega]
  generalize hx : l.getD i tk0 = x
  generalize hy : l.getD (i + 1) tk0 = y
  refine eqTk y x rfl rfl rfl rfl rfl ?_
  (refine Qj (hK _ _ (Qz ?_)); clear hK K)
  have hs := dd_step (l := l) (z := tk0) (p := i + 1) (by omega) (by omega)
  rw [show i + 1 - 1 = i by omega, hx, hy] at hs
  refine Q2 rfl (fun he => ?_) (fun he => ?_)
  rotate_left
  · (refine Q1 (Qz (Qq fun K hK => ?_)); refine Qx rfl rfl rfl ?_; refine Qk (iadd (by omega) (by omega)) rfl rfl rfl rfl ?_; refine Qv rfl rfl rfl ?_; refine Qj (hK _ _ (Q3 ?_)); clear hK K)
    refine Q9 (i + 1) (by omega) ⟨by omega, ?_⟩ (by exact QX rfl ⟨rfl, by simp only [Int.natCast_add]; rfl, trivial⟩)
    rw [hs, if_neg he, hd, List.take_add_one (i := i + 1), List.getElem?_eq_getElem (by omega), ← hy, List.getD_eq_getElem?_getD, List.getElem?_eq_getElem (by omega)]; rfl
  rw [if_pos he, hd] at hs
  refine St.nameS 0 0 l.length rfl rfl (tks_len l) (by omega) (by decide) (fun gb c hc1 hc2 => ?_)
  (refine Qw (Qq fun K hK => ?_); refine Qx rfl rfl rfl ?_; refine Qx rfl rfl rfl ?_)
  refine Ops.cutKl (i + 1) rfl rfl rfl (by omega) sTks (by omega) rfl ?_
  rw [if_neg (show ¬ c = i + 1 by omega), Nat.zero_add]
  (refine Qv rfl rfl rfl ?_; refine Qj (hK _ _ (Qz (Qw (Qw ?_)))); clear hK K; refine Qq (fun K hK => ?_); refine Qv rfl rfl rfl ?_; refine Qj (hK _ _ (Qz (Q4 ?_))); clear hK K)
  refine Xj (α := Nat) (fun j => i + 2 + j ≤ l.length ∧ (dd (l.take (i + 2 + j))).length < i + 2 + j)
    (fun j => [(0, .ct (.ex (kh gb 0 l.length c))), (3, .ct (intC (dd (l.take (i + 2 + j))).length)), (4, .ct (.ex (kh gb ((i + 1) * 3) (l.length - (i + 1)) (c - (i + 1))))), (5, .ct (intC (j + 1)))])
    (fun j => [(0, .rowx (kh gb 0 l.length c) 86 3 (tks (dd (l.take (i + 2 + j)) ++ l.drop (dd (l.take (i + 2 + j))).length)))]) (fun j => l.length - j) 0
    ⟨by omega, by rw [Nat.add_zero, hs, List.length_take]; omega⟩ (by
      rw [Nat.add_zero, hs, List.length_take, Nat.min_eq_left hi, List.take_append_drop]
      exact QX rfl ⟨rfl, rfl, rfl, rfl, trivial⟩) ?_
  clear hs
  rintro j ⟨hj, hD⟩
  try dsimp only at hj hD
  try dsimp only
  have hs := dd_step (l := l) (z := tk0) (p := i + 2 + j) (by omega)
  generalize hDD : dd (l.take (i + 2 + j)) = D at hs hD ⊢
  have hrl : (D ++ l.drop D.length).length = l.length := by rw [List.length_append, List.length_drop]; omega
  have hat : ∀ q, D.length ≤ q → (D ++ l.drop D.length).getD q tk0 = l.getD q tk0 := fun q hq => row_at D l q tk0 hq
  (refine Qw (Qw (Qq fun K hK => ?_)); refine Qx rfl rfl rfl ?_; refine Qx rfl rfl rfl ?_)
  refine Ops.lenKv rfl rfl sTks.und rfl ?_
  (refine Qk ilss rfl rfl rfl rfl ?_; refine Qj (hK _ _ (Qz ?_)); clear hK K)
  refine Q2 rfl (fun h2 => ?_) (fun h2 => ?_)
  · (refine Q1 (Qz (Qw (Q4 (Qw ?_)))))
    refine Xu (by with_reducible exact mixed) 10 (.p 0 (.p 1 (.p 2 (.p 4 (.p 5 (.p 6 (.p 7 (.f 3 (.f 8 (.p 9 .done)))))))))) (by kernel_rfl) (fun K hK => ?_)
    (refine Qx rfl rfl rfl ?_; refine Qx rfl rfl rfl ?_)
    refine Z0 0 (i + 1) rfl rfl rfl rfl sTks (by omega) (by omega) rfl ?_
    (refine Qx rfl rfl rfl ?_; refine Qx rfl rfl rfl ?_; refine Qk (isub (by omega) (by omega)) rfl rfl rfl rfl ?_)
    refine Z0 0 (i + 1) rfl rfl rfl rfl sTks (by omega) (by omega) rfl ?_
    skip
    refine ldE tkCs tk0 tk_len rfl rfl rfl rfl rfl (by omega) (by with_reducible exact Zl) rfl ?_
    refine ldE tkCs tk0 tk_len rfl rfl rfl rfl rfl (by omega) (by with_reducible exact Zl) rfl ?_
    rw [show i + 1 + ((j : Int) + 1).toNat = i + 2 + j by omega, show i + 1 + ((j : Int) + 1 - 1).toNat = i + 2 + j - 1 by omega, hat _ (by omega), hat _ (by omega)]
    have hs := hs (by omega)
    generalize hx2 : l.getD (i + 2 + j - 1) tk0 = x2 at hs ⊢
    generalize hy2 : l.getD (i + 2 + j) tk0 = y2 at hs ⊢
    refine neTk y2 x2 rfl rfl rfl rfl rfl ?_
    (refine Qj (hK _ _ (Qz ?_)); clear hK K)
    refine Q2 rfl (fun he2 => ?_) (fun he2 => ?_)
    · rw [if_neg he2] at hs
      (refine Qw (Qq fun K hK => ?_); refine Qx rfl rfl rfl ?_; refine Qx rfl rfl rfl ?_; refine Qx rfl rfl rfl ?_; refine Qx rfl rfl rfl ?_)
      refine Z0 0 (i + 1) rfl rfl rfl rfl sTks (by omega) (by omega) rfl ?_
      refine ldE tkCs tk0 tk_len rfl rfl rfl rfl rfl (by omega) (by with_reducible exact Zl) rfl ?_
      rw [show i + 1 + ((j : Int) + 1).toNat = i + 2 + j by omega, hat _ (by omega), hy2]
      refine Z0 0 0 rfl rfl rfl rfl sTks (by omega) (by omega) rfl ?_
      rw [Nat.zero_add, show ((D.length : Int)).toNat = D.length by omega]
      refine stEX tkCs y2 tk_len rfl rfl rfl rfl rfl (by omega) (by with_reducible exact szTrace) ?_
      rw [row_set D l y2 (by omega)]
      (refine Qj (hK _ _ (Qz ?_)); clear hK K; refine Qq (fun K hK => ?_); refine Qx rfl rfl rfl ?_; refine Qk (iadd (by omega) (by omega)) rfl rfl rfl rfl ?_; refine Qv rfl rfl rfl ?_; refine Qj (hK _ _ (Qz ?_)); clear hK K; refine Qq (fun K hK => ?_); refine Qx rfl rfl rfl ?_; refine Qk (iadd (by omega) (by omega)) rfl rfl rfl rfl ?_; refine Qv rfl rfl rfl ?_; refine Qj (hK _ _ (Q3 ?_)); clear hK K)
      refine Q9 (j + 1) (by omega) ⟨by omega, by show (dd (l.take (i + 2 + j + 1))).length < _; rw [hs, List.length_append]; show D.length + 1 < _; omega⟩ ?_
      rw [show i + 2 + (j + 1) = i + 2 + j + 1 by omega, hs, List.length_append]
      exact QX rfl ⟨rfl, by simp only [Int.natCast_add]; rfl, rfl, by simp only [Int.natCast_add]; rfl, trivial⟩
    · rw [if_pos (Decidable.not_not.1 he2)] at hs
      (refine Q1 (Qz (Qq fun K hK => ?_)); refine Qx rfl rfl rfl ?_; refine Qk (iadd (by omega) (by omega)) rfl rfl rfl rfl ?_; refine Qv rfl rfl rfl ?_; refine Qj (hK _ _ (Q3 ?_)); clear hK K)
      refine Q9 (j + 1) (by omega) ⟨by omega, by show (dd (l.take (i + 2 + j + 1))).length < _; rw [hs]; omega⟩ ?_
      rw [show i + 2 + (j + 1) = i + 2 + j + 1 by omega, hs]
      exact QX rfl ⟨rfl, rfl, rfl, by simp only [Int.natCast_add]; rfl, trivial⟩
  · have e : dd l = D := by rw [← hDD, List.take_of_length_le (by omega)]
    rw [e]
    (refine Qp (Qz (Qw (Qq fun K hK => ?_))); refine Qx rfl rfl rfl ?_; refine Qx rfl rfl rfl ?_)
    refine Ops.cutKl D.length rfl rfl rfl rfl sTks (by omega) rfl ?_
    skip
    refine Ops.cutOff 0 D.length rfl (by show (tks _).length = _; rw [tks_len, hrl]) (by decide) (by omega) (by show (tks _).take _ = tks D; rw [tks_take, List.take_left]) ?_
    refine Ops.clearK 0 rfl rfl (by split <;> omega) rfl (tks_len D) (by omega) sTks (by decide) ?_
    (refine Qj (hK _ _ (Qz (Qw ?_))); clear hK K; refine Qq (fun K hK => ?_); refine Qx rfl rfl rfl ?_; refine Qx rfl rfl rfl ?_)
    refine Ops.cutKh D.length rfl rfl rfl rfl sTks (by omega) rfl ?_
    (refine Qv rfl rfl rfl ?_; refine Qj (hK _ _ (Qz (Q0 (Q8 (QY (QY (Q8 (QY ?_)))))))); clear hK K)
    refine Fin.link 2 0 rfl rfl ?_
    refine YV rfl rfl rfl
end Go.Proofs.YtlkdkbdgnjcopaaGreat
namespace Go.Proofs.YtlkdkbdgnjcopaaGreat
open Go.Own Go.Limbs
theorem fTk0 : fldInfo Tryz.prog 86 0 = some (0, some 1) := by kernel_rfl
theorem fTk1 : fldInfo Tryz.prog 86 1 = some (1, some 1) := by kernel_rfl
theorem fTk2 : fldInfo Tryz.prog 86 2 = some (2, some 1) := by kernel_rfl
theorem fWr0 : fldInfo Tryz.prog 37 0 = some (0, some 1) := by kernel_rfl
theorem fWr1 : fldInfo Tryz.prog 37 1 = some (1, some 1) := by kernel_rfl
end Go.Proofs.YtlkdkbdgnjcopaaGreat
namespace Go.Proofs.YtlkdkbdgnjcopaaGreat
open Go.Shelf
def laySortT_ren : Go.Shelf.Ren := ⟨fun | 6 => 122 | 15 => 118 | 14 => 159 | 28 => 155 | 29 => 156 | 20 => 186 | 21 => 187 | 22 => 188 | 23 => 189 | 24 => 190 | 25 => 191 | 26 => 192 | 27 => 193 | 46 => 199 | 47 => 182 | 48 => 183 | 49 => 200 | 50 => 201 | 57 => 203 | n => n, fun | 22 => 82 | 24 => 86 | 25 => 139 | 3 => 3 | 39 => 172 | 0 => 0 | 53 => 26 | 55 => 153 | 4 => 4 | 46 => 201 | 45 => 200 | 50 => 205 | 5 => 5 | 9 => 9 | 66 => 227 | 70 => 231 | 76 => 240 | 77 => 241 | n => n, fun | n => n⟩
theorem laySortT : Go.Proofs.SlLaysF0.n6 Tryz.prog laySortT_ren := {
  mixed := by kernel_rfl
  f6 := ⟨Tryz.f122.name, by decide, Tryz.func122.trans (congrArg some (by kernel_rfl))⟩
  f14 := ⟨Tryz.f159.name, by decide, Tryz.func159.trans (congrArg some (by kernel_rfl))⟩
  f15 := Tryz.func118.trans (congrArg some (by kernel_rfl))
  f20 := ⟨Tryz.f186.name, by decide, Tryz.func186.trans (congrArg some (by kernel_rfl))⟩
  f21 := ⟨Tryz.f187.name, by decide, Tryz.func187.trans (congrArg some (by kernel_rfl))⟩
  f22 := ⟨Tryz.f188.name, by decide, Tryz.func188.trans (congrArg some (by kernel_rfl))⟩
  f23 := ⟨Tryz.f189.name, by decide, Tryz.func189.trans (congrArg some (by kernel_rfl))⟩
  f24 := ⟨Tryz.f190.name, by decide, Tryz.func190.trans (congrArg some (by kernel_rfl))⟩
  f25 := ⟨Tryz.f191.name, by decide, Tryz.func191.trans (congrArg some (by kernel_rfl))⟩
  f26 := ⟨Tryz.f192.name, by decide, Tryz.func192.trans (congrArg some (by kernel_rfl))⟩
  f27 := ⟨Tryz.f193.name, by decide, Tryz.func193.trans (congrArg some (by kernel_rfl))⟩
  f28 := Tryz.func155.trans (congrArg some (by kernel_rfl))
  f29 := Tryz.func156.trans (congrArg some (by kernel_rfl))
  f46 := ⟨Tryz.f199.name, by decide, Tryz.func199.trans (congrArg some (by kernel_rfl))⟩
  f47 := Tryz.func182.trans (congrArg some (by kernel_rfl))
  f48 := Tryz.func183.trans (congrArg some (by kernel_rfl))
  f49 := ⟨Tryz.f200.name, by decide, Tryz.func200.trans (congrArg some (by kernel_rfl))⟩
  f50 := ⟨Tryz.f201.name, by decide, Tryz.func201.trans (congrArg some (by kernel_rfl))⟩
  f57 := ⟨Tryz.f203.name, by decide, Tryz.func203.trans (congrArg some (by kernel_rfl))⟩
  t0 := Tryz.underlying0
  a0 := Tryz.isAgg0
  z0 := Tryz.sizeOf0
  v0 := Tryz.zeroValue0
  t3 := Tryz.underlying3
  a3 := Tryz.isAgg3
  z3 := Tryz.sizeOf3
  v3 := Tryz.zeroValue3
  t4 := Tryz.underlying4
  a4 := Tryz.isAgg4
  z4 := Tryz.sizeOf4
  v4 := Tryz.zeroValue4
  t5 := Tryz.underlying5
  a5 := Tryz.isAgg5
  z5 := Tryz.sizeOf5
  v5 := Tryz.zeroValue5
  t9 := Tryz.underlying9
  a9 := Tryz.isAgg9
  z9 := Tryz.sizeOf9
  v9 := Tryz.zeroValue9
  t22 := Tryz.underlying82
  a22 := Tryz.isAgg82
  z22 := Tryz.sizeOf82
  v22 := Tryz.zeroValue82
  t25 := Tryz.underlying139
  a25 := Tryz.isAgg139
  z25 := Tryz.sizeOf139
  v25 := Tryz.zeroValue139
  t39 := Tryz.underlying172
  a39 := Tryz.isAgg172
  z39 := Tryz.sizeOf172
  v39 := Tryz.zeroValue172
  t45 := Tryz.underlying200
  a45 := Tryz.isAgg200
  z45 := Tryz.sizeOf200
  v45 := Tryz.zeroValue200
  t46 := Tryz.underlying201
  a46 := Tryz.isAgg201
  z46 := Tryz.sizeOf201
  v46 := Tryz.zeroValue201
  t50 := Tryz.underlying205
  a50 := Tryz.isAgg205
  z50 := Tryz.sizeOf205
  v50 := Tryz.zeroValue205
  t53 := Tryz.underlying26
  a53 := Tryz.isAgg26
  z53 := Tryz.sizeOf26
  v53 := Tryz.zeroValue26
  t55 := Tryz.underlying153
  a55 := Tryz.isAgg153
  z55 := Tryz.sizeOf153
  v55 := Tryz.zeroValue153
  t66 := Tryz.underlying227
  a66 := Tryz.isAgg227
  z66 := Tryz.sizeOf227
  v66 := Tryz.zeroValue227
  t70 := Tryz.underlying231
  a70 := Tryz.isAgg231
  z70 := Tryz.sizeOf231
  v70 := Tryz.zeroValue231
  t76 := Tryz.underlying240
  a76 := Tryz.isAgg240
  z76 := Tryz.sizeOf240
  v76 := Tryz.zeroValue240
  t77 := Tryz.underlying241
  a77 := Tryz.isAgg241
  z77 := Tryz.sizeOf241
  v77 := Tryz.zeroValue241 }
end Go.Proofs.YtlkdkbdgnjcopaaGreat
namespace Go.Proofs.YtlkdkbdgnjcopaaGreat
open Go.Own Go.Limbs Go.Shelf
open Go.Sort hiding Ok
attribute [local irreducible] St Ops Go.Own.Fin Ok OkB OkN OkT OkL OkF
theorem goTr1 : InGo Tryz.prog 123 := InGo.of Tryz.func123 rfl (by decide)
theorem Tr1_ok (a b : Tk) : Ok Tryz.prog 123 [tkC a, tkC b] (intC (cmpT a b)) := by
  have e0 : cmpT a b = firstN [cmp3 a.va b.va, cmp3 a.ds.val b.ds.val, cmp3 a.pr b.pr] := by
    unfold cmpT tkI
    simp only [cmpL, firstN]
  rw [e0]
  clear e0
  have h1 := cm_ok a.va b.va
  have h2 := cmA_ok (a.ds.val : Int) (b.ds.val : Int)
  have h3 := cm_ok a.pr b.pr
  have hO := Or_ok [cmp3 a.va b.va, cmp3 a.ds.val b.ds.val, cmp3 a.pr b.pr] (by simp)
  generalize cmp3 a.va b.va = c1 at h1 hO ⊢
  generalize cmp3 (a.ds.val : Int) (b.ds.val : Int) = c2 at h2 hO ⊢
  generalize cmp3 a.pr b.pr = c3 at h3 hO ⊢
  refine Ok.enter Tryz.func123 rfl _ Tryz.ntmps123 rfl ?_
  intro S w
  (refine Qw (Qq fun K hK => ?_); refine Xk 0 rfl rfl rfl rfl rfl rfl rfl ?_; refine Xk 1 rfl rfl rfl rfl rfl rfl rfl ?_; refine Qv rfl rfl rfl ?_; refine Qj (hK _ _ (Qz (Qw ?_))); clear hK K)
  refine Xu (by with_reducible exact mixed) 18 (.p 0 (.p 2 (.p 5 (.p 7 (.p 10 (.p 12 (.f 1 (.f 3 (.f 6 (.f 8 (.f 11 (.f 13 (.m 4 (.m 9 (.m 14 (.m 15 (.m 16 (.p 17 .done)))))))))))))))))) (by kernel_rfl) (fun K hK => ?_)
  (refine QV rfl rfl rfl (by with_reducible first | exact fTk0 | exact fTk1 | exact fTk2 | exact fWr0 | exact fWr1 | exact X1 | exact X0 | exact Xm | exact fStm1 | exact fCn0 | exact fCn1 | exact fCn2 | exact fCn3 | exact fCs0 | exact fCs1) rfl ?_; refine QV rfl rfl rfl (by with_reducible first | exact fTk0 | exact fTk1 | exact fTk2 | exact fWr0 | exact fWr1 | exact X1 | exact X0 | exact Xm | exact fStm1 | exact fCn0 | exact fCn1 | exact fCn2 | exact fCn3 | exact fCs0 | exact fCs1) rfl ?_; refine QV rfl rfl rfl (by with_reducible first | exact fTk0 | exact fTk1 | exact fTk2 | exact fWr0 | exact fWr1 | exact X1 | exact X0 | exact Xm | exact fStm1 | exact fCn0 | exact fCn1 | exact fCn2 | exact fCn3 | exact fCs0 | exact fCs1) rfl ?_; refine QV rfl rfl rfl (by with_reducible first | exact fTk0 | exact fTk1 | exact fTk2 | exact fWr0 | exact fWr1 | exact X1 | exact X0 | exact Xm | exact fStm1 | exact fCn0 | exact fCn1 | exact fCn2 | exact fCn3 | exact fCs0 | exact fCs1) rfl ?_; refine QV rfl rfl rfl (by with_reducible first | exact fTk0 | exact fTk1 | exact fTk2 | exact fWr0 | exact fWr1 | exact X1 | exact X0 | exact Xm | exact fStm1 | exact fCn0 | exact fCn1 | exact fCn2 | exact fCn3 | exact fCs0 | exact fCs1) rfl ?_; refine QV rfl rfl rfl (by with_reducible first | exact fTk0 | exact fTk1 | exact fTk2 | exact fWr0 | exact fWr1 | exact X1 | exact X0 | exact Xm | exact fStm1 | exact fCn0 | exact fCn1 | exact fCn2 | exact fCn3 | exact fCs0 | exact fCs1) rfl ?_; refine QJ rfl rfl rfl rfl rfl (by with_reducible first | exact lInt | exact Qa | exact Q5 | exact lRess) rfl ?_; refine QJ rfl rfl rfl rfl rfl (by with_reducible first | exact lInt | exact Qa | exact Q5 | exact lRess) rfl ?_; refine QJ rfl rfl rfl rfl rfl (by with_reducible first | exact lInt | exact Qa | exact Q5 | exact lRess) rfl ?_; refine QJ rfl rfl rfl rfl rfl (by with_reducible first | exact lInt | exact Qa | exact Q5 | exact lRess) rfl ?_; refine QJ rfl rfl rfl rfl rfl (by with_reducible first | exact lInt | exact Qa | exact Q5 | exact lRess) rfl ?_; refine QJ rfl rfl rfl rfl rfl (by with_reducible first | exact lInt | exact Qa | exact Q5 | exact lRess) rfl ?_)
  refine QW gocm h1 rfl rfl rfl rfl ?_
  refine QW gocmA h2 rfl rfl rfl rfl ?_
  refine QW gocm h3 rfl rfl rfl rfl ?_
  refine Ops.litI [c1, c2, c3] rfl rfl (by with_reducible exact sInts) rfl ⟨rfl, rfl, rfl, rfl, rfl, rfl, trivial⟩ (by decide) rfl ?_
  refine QW goOr hO rfl rfl rfl rfl ?_
  (refine Qv rfl rfl rfl ?_; refine Qj (hK _ _ (Qz (Q0 ?_))); clear hK K)
  refine QK [_] rfl (Qu rfl QQ) rfl rfl
def tkV (t : Tk) : List Value := [.int .i64 t.va, .int .u32 t.ds.val, .int .i64 t.pr]
abbrev cmpTV : CT := .ex (.func (.func 123) #[] #[])
theorem goSortT : InGo Tryz.prog 122 := InGo.of Tryz.func122 rfl (by decide)
theorem SortT_ok (l : List Tk) (hl : l.length < 4611686018427387904) : OkL Tryz.prog 122 86 3 (tks l) [cmpTV] unitC (tks (l.mergeSort fun x y => !(ltOf cmpT) y x)) :=
  sortFunc_L laySortT (enc := tkV) (k := 3) (cf := cmpT) (g := 123) (by decide) Tryz.isAgg86 Tryz.sizeOf86 (fun _ => rfl) (fun x v hv => by
    simp only [tkV, List.mem_cons, List.not_mem_nil, or_false] at hv
    rcases hv with rfl | rfl | rfl <;> rfl)
    ordT.swo ordT.tot goTr1 Tr1_ok 86 l hl
def trsF (l : List Rs) : List Tk := sd cmpT ((l.filter okR).map trOf)
theorem goTraces : InGo Tryz.prog 86 := InGo.of Tryz.func86 rfl (by decide)
set_option maxHeartbeats 4000000 in
theorem Traces_ok (l : List Rs) (hl : l.length ≤ 10000) : OkF Tryz.prog 86 [rssC l] 86 3 (tks (trsF l)) := by
  refine OkF.enter Tryz.func86 rfl _ Tryz.ntmps86 rfl ?_
  intro S w
  (refine Qw (Qq fun K hK => ?_); refine Qv rfl rfl rfl ?_; refine Qj (hK _ _ (Qz (Qw ?_))); clear hK K; refine Qq (fun K hK => ?_); refine Qv rfl rfl rfl ?_; refine Qj (hK _ _ (Qz (Qw (Qw ?_)))); clear hK K; refine Qq (fun K hK => ?_); refine Qx rfl rfl rfl ?_; refine Qd rfl rfl (by with_reducible exact sRes.und) (List.length_map ..) rfl ?_; refine Qx rfl rfl rfl ?_; refine Qj (hK _ _ (Qz (Q4 ?_))); clear hK K)
  refine Xe 3 0 86 3 rfl rfl rfl ?_
  refine Xj (α := Nat) (fun i => i ≤ l.length)
    (fun i => [(3, .own 0), (6, .ct (rssC l)), (7, .ct (intC l.length)), (8, .ct (intC i))]) (fun i => [(0, .row 86 3 (tks (((l.take i).filter okR).map trOf)))]) (fun i => l.length - i) 0 (Nat.zero_le _) (by exact QX rfl ⟨rfl, rfl, rfl, rfl, trivial⟩) ?_
  intro i hi
  try dsimp only at hi
  try dsimp only
  (refine Qw (Qq fun K hK => ?_); refine Qk ilss rfl rfl rfl rfl ?_; refine Qj (hK _ _ (Qz (Qw ?_))); clear hK K)
  refine Q2 rfl (fun h => ?_) (fun h => ?_)
  · have e2 : (i : Int).toNat = i := Int.toNat_natCast i
    have hs := YQ okR (z := rs0) (i := i) (l := l) (by omega)
    have hfl := filter_len okR l i
    (refine Q1 (Qz (Qw (Q4 (Qw (Qq fun K hK => ?_))))); refine Ql rfl rfl rfl (by with_reducible exact sRes) (by omega) (Z9 (by omega) (by omega)) rfl ?_; refine XW (n := 17) rfl rfl rfl (by with_reducible exact lRes) rfl rfl ?_; refine Qg 1 rfl rfl (by with_reducible exact zvRes) rfl rfl rfl ?_; refine Qc 17 rfl rfl rfl rfl rfl (by with_reducible exact szRes) rfl rfl ?_; refine Qj (hK _ _ (Qz (Qw ?_))); clear hK K; refine Qq (fun K hK => ?_); refine Q7 (n := 17) rfl rfl rfl rfl rfl (by with_reducible exact lRes) rfl ?_)
    rw [e2]
    generalize l.getD i rs0 = c at hs
    skip
    refine QW goValidR (ValidR_ok c) rfl rfl rfl rfl ?_
    (refine Qj (hK _ _ (Qz ?_)); clear hK K)
    refine Xy rfl (fun h2 => ?_) (fun h2 => ?_)
    · rw [if_pos h2] at hs
      (refine Qq (fun K hK => ?_); refine Qx rfl rfl rfl ?_; refine Q7 (n := 17) rfl rfl rfl rfl rfl (by with_reducible exact lRes) rfl ?_)
      refine QW YX (Yu c) rfl rfl rfl rfl ?_
      generalize (l.take i).filter okR = out at hs hfl ⊢
      refine X4 (n := 3) rfl rfl (by with_reducible exact sTks) rfl rfl (by decide) rfl ?_
      refine Qt (out.map trOf).length (tks (out.map trOf ++ [trOf c])) rfl rfl rfl rfl (by with_reducible exact sTks) (tks_len _) rfl (by rw [List.length_map]; omega) (by rw [List.length_map]; omega) (tks_snoc _ _) rfl ?_
      (refine Qv rfl rfl rfl ?_; refine Qj (hK _ _ (Qz ?_)); clear hK K; refine Qq (fun K hK => ?_); refine Qk (iadd (by omega) (by omega)) rfl rfl rfl rfl ?_; refine Qx rfl rfl rfl ?_; refine Qj (hK _ _ (Q3 ?_)); clear hK K)
      refine Qn 1 ?_
      refine Q9 (i + 1) (by omega) (by omega) (by rw [hs, List.map_append]; exact QX rfl ⟨rfl, rfl, rfl, by simp only [Int.natCast_add]; rfl, trivial⟩)
    · rw [if_neg (by rw [h2]; decide)] at hs
      (refine Q1 (Qz (Qq fun K hK => ?_)); refine Qk (iadd (by omega) (by omega)) rfl rfl rfl rfl ?_; refine Qx rfl rfl rfl ?_; refine Qj (hK _ _ (Q3 ?_)); clear hK K)
      refine Qn 1 ?_
      refine Q9 (i + 1) (by omega) (by omega) (by rw [hs]; exact QX rfl ⟨rfl, rfl, rfl, by simp only [Int.natCast_add]; rfl, trivial⟩)
  · have hi' : i = l.length := by omega
    rw [hi', List.take_length]
    have hfl : ((l.filter okR).map trOf).length ≤ l.length := by rw [List.length_map]; exact List.length_filter_le _ _
    unfold trsF
    generalize (l.filter okR).map trOf = m at hfl ⊢
    (refine Qp (Qz (Qw (Qq fun K hK => ?_))); refine Qx rfl rfl rfl ?_)
    refine Ops.callL goSortT (SortT_ok m (by omega)) rfl rfl rfl rfl rfl ?_
    (refine Qj (hK _ _ (Qz (Qw ?_))); clear hK K; refine Qq (fun K hK => ?_); refine Qx rfl rfl rfl ?_)
    refine Ops.callT goCompact_Tk (Compact_Tk_ok _ (by rw [List.length_mergeSort]; omega)) rfl rfl rfl rfl rfl ?_
    (refine Qv rfl rfl rfl ?_; refine Qj (hK _ _ (Qz (Q0 ?_))); clear hK K)
    refine Fin.retF rfl rfl rfl rfl
def ofF (l : List Rs) (t : Tk) : List Rs := (sd cmpR (l.filter okR)).filter fun r => decide (trOf r = t)
theorem goOf : InGo Tryz.prog 87 := InGo.of Tryz.func87 rfl (by decide)
set_option maxHeartbeats 4000000 in
theorem Of_ok (l : List Rs) (t : Tk) (hl : l.length ≤ 10000) : OkF Tryz.prog 87 [rssC l, tkC t] 35 17 (rss (ofF l t)) := by
  have hO := Order_ok l hl
  have hol : (sd cmpR (l.filter okR)).length ≤ 10000 := by
    have := Zn cmpR (l.filter okR)
    have := List.length_filter_le okR l
    omega
  unfold ofF
  generalize sd cmpR (l.filter okR) = o at hO hol ⊢
  refine OkF.enter Tryz.func87 rfl _ Tryz.ntmps87 rfl ?_
  intro S w
  (refine Qw (Qq fun K hK => ?_); refine Xk 0 rfl rfl rfl rfl rfl rfl rfl ?_; refine Qv rfl rfl rfl ?_; refine Qj (hK _ _ (Qz (Qw ?_))); clear hK K; refine Qq (fun K hK => ?_); refine Qv rfl rfl rfl ?_; refine Qj (hK _ _ (Qz (Qw (Qw ?_)))); clear hK K; refine Qq (fun K hK => ?_); refine Qx rfl rfl rfl ?_)
  refine Xp 3 goOrder hO rfl rfl rfl rfl rfl rfl ?_
  refine X2 3 _ rfl (Xn _ _) XZ ?_
  (refine Qd rfl rfl (by with_reducible exact sRes.und) (List.length_map ..) rfl ?_; refine Qx rfl rfl rfl ?_; refine Qj (hK _ _ (Qz (Q4 ?_))); clear hK K)
  refine Xe 5 1 35 17 rfl rfl rfl ?_
  refine Xj (α := Nat) (fun i => i ≤ o.length)
    (fun i => [(3, .own 0), (5, .own 1), (9, .ct (rssC o)), (10, .ct (intC o.length)), (11, .ct (intC i))]) (fun i => [(1, .row 35 17 (rss ((o.take i).filter fun r => decide (trOf r = t)))), (0, .box 86 (tkCs t))]) (fun i => o.length - i) 0 (Nat.zero_le _) (by exact QX rfl ⟨rfl, rfl, rfl, rfl, rfl, trivial⟩) ?_
  intro i hi
  try dsimp only at hi
  try dsimp only
  (refine Qw (Qq fun K hK => ?_); refine Qk ilss rfl rfl rfl rfl ?_; refine Qj (hK _ _ (Qz (Qw ?_))); clear hK K)
  refine Q2 rfl (fun h => ?_) (fun h => ?_)
  · have e2 : (i : Int).toNat = i := Int.toNat_natCast i
    have hs := YQ (fun r => decide (trOf r = t)) (z := rs0) (i := i) (l := o) (by omega)
    have hfl := filter_len (fun r => decide (trOf r = t)) o i
    (refine Q1 (Qz (Qw (Q4 (Qw (Qq fun K hK => ?_))))); refine Ql rfl rfl rfl (by with_reducible exact sRes) (by omega) (Z9 (by omega) (by omega)) rfl ?_; refine XW (n := 17) rfl rfl rfl (by with_reducible exact lRes) rfl rfl ?_; refine Qg 2 rfl rfl (by with_reducible exact zvRes) rfl rfl rfl ?_; refine Qc 17 rfl rfl rfl rfl rfl (by with_reducible exact szRes) rfl rfl ?_; refine Qj (hK _ _ (Qz (Qw ?_))); clear hK K)
    rw [e2]
    generalize o.getD i rs0 = c at hs
    generalize (o.take i).filter (fun r => decide (trOf r = t)) = out at hs hfl ⊢
    refine Xu (by with_reducible exact mixed) 4 (.f 0 (.f 2 (.m 1 (.p 3 .done)))) (by kernel_rfl) (fun K hK => ?_)
    (refine Q7 (n := 17) rfl rfl rfl rfl rfl (by with_reducible exact lRes) rfl ?_; refine Q7 (n := 3) rfl rfl rfl rfl rfl (by with_reducible exact Zl) rfl ?_)
    refine QW YX (Yu c) rfl rfl rfl rfl ?_
    refine eqTk (trOf c) t rfl rfl rfl rfl rfl ?_
    (refine Qj (hK _ _ (Qz ?_)); clear hK K)
    refine Q2 rfl (fun h2 => ?_) (fun h2 => ?_)
    · rw [if_pos (decide_eq_true h2)] at hs
      (refine Qq (fun K hK => ?_); refine Qx rfl rfl rfl ?_; refine Q7 (n := 17) rfl rfl rfl rfl rfl (by with_reducible exact lRes) rfl ?_)
      refine X4 (n := 17) rfl rfl (by with_reducible exact sRes) rfl rfl (by decide) rfl ?_
      refine Qt out.length (rss (out ++ [c])) rfl rfl rfl rfl (by with_reducible exact sRes) (Xt out) rfl (by omega) (by omega) (Zi out c) rfl ?_
      (refine Qv rfl rfl rfl ?_; refine Qj (hK _ _ (Qz ?_)); clear hK K; refine Qq (fun K hK => ?_); refine Qk (iadd (by omega) (by omega)) rfl rfl rfl rfl ?_; refine Qx rfl rfl rfl ?_; refine Qj (hK _ _ (Q3 ?_)); clear hK K)
      refine Qn 2 ?_
      refine Q9 (i + 1) (by omega) (by omega) (by rw [hs]; exact QX rfl ⟨rfl, rfl, rfl, rfl, by simp only [Int.natCast_add]; rfl, trivial⟩)
    · rw [if_neg (by rw [decide_eq_false h2]; decide)] at hs
      (refine Q1 (Qz (Qq fun K hK => ?_)); refine Qk (iadd (by omega) (by omega)) rfl rfl rfl rfl ?_; refine Qx rfl rfl rfl ?_; refine Qj (hK _ _ (Q3 ?_)); clear hK K)
      refine Qn 2 ?_
      refine Q9 (i + 1) (by omega) (by omega) (by rw [hs]; exact QX rfl ⟨rfl, rfl, rfl, rfl, by simp only [Int.natCast_add]; rfl, trivial⟩)
  · have hi' : i = o.length := by omega
    rw [hi', List.take_length]
    (refine Qp (Qz (Qw (Qq fun K hK => ?_))); refine Qx rfl rfl rfl ?_; refine Qv rfl rfl rfl ?_; refine Qj (hK _ _ (Qz (Q0 ?_))); clear hK K)
    refine Fin.retF rfl rfl rfl rfl
end Go.Proofs.YtlkdkbdgnjcopaaGreat
namespace Go.Proofs.YtlkdkbdgnjcopaaGreat
open Go.Shelf
def laySortW_ren : Go.Shelf.Ren := ⟨fun | 6 => 76 | 15 => 118 | 14 => 117 | 28 => 155 | 29 => 156 | 20 => 147 | 21 => 148 | 22 => 149 | 23 => 150 | 24 => 151 | 25 => 152 | 26 => 153 | 27 => 154 | 46 => 181 | 47 => 182 | 48 => 183 | 49 => 184 | 50 => 185 | 57 => 198 | n => n, fun | 22 => 64 | 24 => 37 | 25 => 106 | 3 => 3 | 39 => 172 | 0 => 0 | 53 => 26 | 55 => 153 | 4 => 4 | 46 => 201 | 45 => 200 | 50 => 205 | 5 => 5 | 9 => 9 | 66 => 227 | 70 => 231 | 76 => 240 | 77 => 241 | n => n, fun | n => n⟩
theorem laySortW : Go.Proofs.SlLaysF0.n6 Tryz.prog laySortW_ren := {
  mixed := by kernel_rfl
  f6 := ⟨Tryz.f76.name, by decide, Tryz.func76.trans (congrArg some (by kernel_rfl))⟩
  f14 := ⟨Tryz.f117.name, by decide, Tryz.func117.trans (congrArg some (by kernel_rfl))⟩
  f15 := Tryz.func118.trans (congrArg some (by kernel_rfl))
  f20 := ⟨Tryz.f147.name, by decide, Tryz.func147.trans (congrArg some (by kernel_rfl))⟩
  f21 := ⟨Tryz.f148.name, by decide, Tryz.func148.trans (congrArg some (by kernel_rfl))⟩
  f22 := ⟨Tryz.f149.name, by decide, Tryz.func149.trans (congrArg some (by kernel_rfl))⟩
  f23 := ⟨Tryz.f150.name, by decide, Tryz.func150.trans (congrArg some (by kernel_rfl))⟩
  f24 := ⟨Tryz.f151.name, by decide, Tryz.func151.trans (congrArg some (by kernel_rfl))⟩
  f25 := ⟨Tryz.f152.name, by decide, Tryz.func152.trans (congrArg some (by kernel_rfl))⟩
  f26 := ⟨Tryz.f153.name, by decide, Tryz.func153.trans (congrArg some (by kernel_rfl))⟩
  f27 := ⟨Tryz.f154.name, by decide, Tryz.func154.trans (congrArg some (by kernel_rfl))⟩
  f28 := Tryz.func155.trans (congrArg some (by kernel_rfl))
  f29 := Tryz.func156.trans (congrArg some (by kernel_rfl))
  f46 := ⟨Tryz.f181.name, by decide, Tryz.func181.trans (congrArg some (by kernel_rfl))⟩
  f47 := Tryz.func182.trans (congrArg some (by kernel_rfl))
  f48 := Tryz.func183.trans (congrArg some (by kernel_rfl))
  f49 := ⟨Tryz.f184.name, by decide, Tryz.func184.trans (congrArg some (by kernel_rfl))⟩
  f50 := ⟨Tryz.f185.name, by decide, Tryz.func185.trans (congrArg some (by kernel_rfl))⟩
  f57 := ⟨Tryz.f198.name, by decide, Tryz.func198.trans (congrArg some (by kernel_rfl))⟩
  t0 := Tryz.underlying0
  a0 := Tryz.isAgg0
  z0 := Tryz.sizeOf0
  v0 := Tryz.zeroValue0
  t3 := Tryz.underlying3
  a3 := Tryz.isAgg3
  z3 := Tryz.sizeOf3
  v3 := Tryz.zeroValue3
  t4 := Tryz.underlying4
  a4 := Tryz.isAgg4
  z4 := Tryz.sizeOf4
  v4 := Tryz.zeroValue4
  t5 := Tryz.underlying5
  a5 := Tryz.isAgg5
  z5 := Tryz.sizeOf5
  v5 := Tryz.zeroValue5
  t9 := Tryz.underlying9
  a9 := Tryz.isAgg9
  z9 := Tryz.sizeOf9
  v9 := Tryz.zeroValue9
  t22 := Tryz.underlying64
  a22 := Tryz.isAgg64
  z22 := Tryz.sizeOf64
  v22 := Tryz.zeroValue64
  t25 := Tryz.underlying106
  a25 := Tryz.isAgg106
  z25 := Tryz.sizeOf106
  v25 := Tryz.zeroValue106
  t39 := Tryz.underlying172
  a39 := Tryz.isAgg172
  z39 := Tryz.sizeOf172
  v39 := Tryz.zeroValue172
  t45 := Tryz.underlying200
  a45 := Tryz.isAgg200
  z45 := Tryz.sizeOf200
  v45 := Tryz.zeroValue200
  t46 := Tryz.underlying201
  a46 := Tryz.isAgg201
  z46 := Tryz.sizeOf201
  v46 := Tryz.zeroValue201
  t50 := Tryz.underlying205
  a50 := Tryz.isAgg205
  z50 := Tryz.sizeOf205
  v50 := Tryz.zeroValue205
  t53 := Tryz.underlying26
  a53 := Tryz.isAgg26
  z53 := Tryz.sizeOf26
  v53 := Tryz.zeroValue26
  t55 := Tryz.underlying153
  a55 := Tryz.isAgg153
  z55 := Tryz.sizeOf153
  v55 := Tryz.zeroValue153
  t66 := Tryz.underlying227
  a66 := Tryz.isAgg227
  z66 := Tryz.sizeOf227
  v66 := Tryz.zeroValue227
  t70 := Tryz.underlying231
  a70 := Tryz.isAgg231
  z70 := Tryz.sizeOf231
  v70 := Tryz.zeroValue231
  t76 := Tryz.underlying240
  a76 := Tryz.isAgg240
  z76 := Tryz.sizeOf240
  v76 := Tryz.zeroValue240
  t77 := Tryz.underlying241
  a77 := Tryz.isAgg241
  z77 := Tryz.sizeOf241
  v77 := Tryz.zeroValue241 }
end Go.Proofs.YtlkdkbdgnjcopaaGreat
namespace Go.Proofs.YtlkdkbdgnjcopaaGreat
open Go.Own Go.Limbs Go.Shelf
open Go.Sort hiding Ok
attribute [local irreducible] St Ops Go.Own.Fin Ok OkB OkN OkT OkL OkF
def cmpW (a b : Wr) : Int := cmpL (wrI a) (wrI b)
theorem ordW : Ord cmpW where
  anti a b := cmpL_anti _ _
  eq0 a b h := wrI_inj a b (cmpL_eq (xs := wrI a) (ys := wrI b) rfl h)
  trans a b c := cmpL_trans (xs := wrI a) (ys := wrI b) (zs := wrI c) rfl rfl
theorem ms_nodup {α : Type} [DecidableEq α] {cf : α → α → Int} (O : Ord cf) {l m : List α} (hp : l.Perm m) (hn : m.Nodup) : (l.mergeSort fun x y => !(ltOf cf) y x) = sd cf m := by
  have h := List.pairwise_mergeSort (le := fun x y => !(ltOf cf) y x) (fun a b c h1 h2 => by
      simp only [ltOf, Bool.not_eq_true', decide_eq_false_iff_not] at *
      intro h
      rcases Int.lt_trichotomy (cf c b) 0 with h3 | h3 | h3
      · exact h2 h3
      · rw [O.eq0 c b h3] at h; exact h1 h
      · exact h1 (O.trans b c a (by rw [O.anti c b]; omega) h)) (fun a b => by
      simp only [ltOf, Bool.or_eq_true, Bool.not_eq_true', decide_eq_false_iff_not]
      rw [O.anti a b]; omega) l
  have hnd : (l.mergeSort fun x y => !(ltOf cf) y x).Nodup := ((List.mergeSort_perm l _).trans hp).symm.nodup hn
  refine Up.ext O ?_ (Zt O m).1 (fun x => by rw [(Zt O m).2 x, List.mem_mergeSort, hp.mem_iff])
  refine (h.and hnd).imp (fun {a b} hab => ?_)
  obtain ⟨h1, h2⟩ := hab
  simp only [ltOf, Bool.not_eq_true', decide_eq_false_iff_not] at h1
  rw [O.anti a b] at h1
  have : cf a b ≠ 0 := fun e => h2 (O.eq0 a b e)
  omega
theorem goAll1 : InGo Tryz.prog 49 := InGo.of Tryz.func49 rfl (by decide)
theorem All1_ok (a b : Wr) : Ok Tryz.prog 49 [wrC a, wrC b] (intC (cmpW a b)) := by
  have e0 : cmpW a b = firstN [cmp3 a.1.val b.1.val, cmp3 a.2.val b.2.val] := by
    unfold cmpW wrI
    simp only [cmpL, firstN]
  rw [e0]
  clear e0
  have h1 := cmA_ok (a.1.val : Int) (b.1.val : Int)
  have h2 := cmA_ok (a.2.val : Int) (b.2.val : Int)
  have hO := Or_ok [cmp3 a.1.val b.1.val, cmp3 a.2.val b.2.val] (by simp)
  generalize cmp3 (a.1.val : Int) (b.1.val : Int) = c1 at h1 hO ⊢
  generalize cmp3 (a.2.val : Int) (b.2.val : Int) = c2 at h2 hO ⊢
  refine Ok.enter Tryz.func49 rfl _ Tryz.ntmps49 rfl ?_
  intro S w
  (refine Qw (Qq fun K hK => ?_); refine Xk 0 rfl rfl rfl rfl rfl rfl rfl ?_; refine Xk 1 rfl rfl rfl rfl rfl rfl rfl ?_; refine Qv rfl rfl rfl ?_; refine Qj (hK _ _ (Qz (Qw ?_))); clear hK K)
  refine Xu (by with_reducible exact mixed) 13 (.p 0 (.p 2 (.p 5 (.p 7 (.f 1 (.f 3 (.f 6 (.f 8 (.m 4 (.m 9 (.m 10 (.m 11 (.p 12 .done))))))))))))) (by kernel_rfl) (fun K hK => ?_)
  (refine QV rfl rfl rfl (by with_reducible first | exact fTk0 | exact fTk1 | exact fTk2 | exact fWr0 | exact fWr1 | exact X1 | exact X0 | exact Xm | exact fStm1 | exact fCn0 | exact fCn1 | exact fCn2 | exact fCn3 | exact fCs0 | exact fCs1) rfl ?_; refine QV rfl rfl rfl (by with_reducible first | exact fTk0 | exact fTk1 | exact fTk2 | exact fWr0 | exact fWr1 | exact X1 | exact X0 | exact Xm | exact fStm1 | exact fCn0 | exact fCn1 | exact fCn2 | exact fCn3 | exact fCs0 | exact fCs1) rfl ?_; refine QV rfl rfl rfl (by with_reducible first | exact fTk0 | exact fTk1 | exact fTk2 | exact fWr0 | exact fWr1 | exact X1 | exact X0 | exact Xm | exact fStm1 | exact fCn0 | exact fCn1 | exact fCn2 | exact fCn3 | exact fCs0 | exact fCs1) rfl ?_; refine QV rfl rfl rfl (by with_reducible first | exact fTk0 | exact fTk1 | exact fTk2 | exact fWr0 | exact fWr1 | exact X1 | exact X0 | exact Xm | exact fStm1 | exact fCn0 | exact fCn1 | exact fCn2 | exact fCn3 | exact fCs0 | exact fCs1) rfl ?_; refine QJ rfl rfl rfl rfl rfl (by with_reducible first | exact lInt | exact Qa | exact Q5 | exact lRess) rfl ?_; refine QJ rfl rfl rfl rfl rfl (by with_reducible first | exact lInt | exact Qa | exact Q5 | exact lRess) rfl ?_; refine QJ rfl rfl rfl rfl rfl (by with_reducible first | exact lInt | exact Qa | exact Q5 | exact lRess) rfl ?_; refine QJ rfl rfl rfl rfl rfl (by with_reducible first | exact lInt | exact Qa | exact Q5 | exact lRess) rfl ?_)
  refine QW gocmA h1 rfl rfl rfl rfl ?_
  refine QW gocmA h2 rfl rfl rfl rfl ?_
  refine Ops.litI [c1, c2] rfl rfl (by with_reducible exact sInts) rfl ⟨rfl, rfl, rfl, rfl, trivial⟩ (by decide) rfl ?_
  refine QW goOr hO rfl rfl rfl rfl ?_
  (refine Qv rfl rfl rfl ?_; refine Qj (hK _ _ (Qz (Q0 ?_))); clear hK K)
  refine QK [_] rfl (Qu rfl QQ) rfl rfl
abbrev cmpWV : CT := .ex (.func (.func 49) #[] #[])
theorem goSortW : InGo Tryz.prog 76 := InGo.of Tryz.func76 rfl (by decide)
theorem SortW_ok (l : List Wr) (hl : l.length < 4611686018427387904) : OkL Tryz.prog 76 37 2 (wrs l) [cmpWV] unitC (wrs (l.mergeSort fun x y => !(ltOf cmpW) y x)) :=
  sortFunc_L laySortW (enc := wr2) (k := 2) (cf := cmpW) (g := 49) (by decide) Tryz.isAgg37 Tryz.sizeOf37 (fun _ => rfl) (fun x v hv => one_two x v hv)
    ordW.swo ordW.tot goAll1 All1_ok 37 l hl
def wrE (x : Wr) : Value := Go.Own.encI [.u32, .u32] (wrI x)
abbrev keysC (kv : List (Value × CT)) : CT := .fr (closT 95 [.fr (ptrT [.fr (mapT kv)])])
theorem goKeys : InGo Tryz.prog 48 := InGo.of Tryz.func48 rfl (by decide)
theorem Keys_ok (kv : List (Value × CT)) : Ok Tryz.prog 48 [.fr (mapT kv)] (keysC kv) := by
  refine Ok.enter Tryz.func48 rfl _ Tryz.ntmps48 rfl ?_
  intro S w
  refine Qw ?_
  refine Qq (fun K hK => ?_)
  refine Ops.box1 0 rfl rfl rfl rfl rfl rfl rfl ?_
  (refine Qv rfl rfl rfl ?_; refine Qj (hK _ _ (Qz (Qw ?_))); clear hK K; refine Qq (fun K hK => ?_))
  refine X2 0 _ rfl rfl XZ ?_
  refine Ops.makeFunc rfl rfl rfl ?_
  (refine Qv rfl rfl rfl ?_; refine Qj (hK _ _ (Qz (Q0 ?_))); clear hK K)
  refine QK [_] rfl (Qu rfl QQ) rfl rfl
theorem wr2_cells (S : BSet) (w : World) : ∀ l : List Wr, cells S w (wrs l) (wrV2 l)
  | [] => trivial
  | x :: l => by
    have e1 : wrs (x :: l) = wrCs x ++ wrs l := by simp [wrs]
    have e2 : wrV2 (x :: l) = wr2 x ++ wrV2 l := by simp [wrV2]
    rw [e1, e2]
    exact cells.append ⟨rfl, rfl, trivial⟩ (wr2_cells S w l)
theorem ownsRow_low {W : World} {base base' : Nat} {e : TypeId} {size : Nat} {v : Value} {k : Nat} {xs : List Value} (h : W.ownsRow base e size v k xs) (hb : base' ≤ base) : W.ownsRow base' e size v k xs := by
  refine ⟨h.1, ?_⟩
  rcases h.2 with hn | ⟨g, cap, cur, hv, hbg, rest⟩
  · exact .inl hn
  · exact .inr ⟨g, cap, cur, hv, Nat.le_trans hb hbg, rest⟩
def KeysJ (ks : List Wr) (D : List CT) : Prop := ∃ ss : List Wr, ss.Perm ks ∧ D = wrs ss
theorem goAppendSeq : InGo Tryz.prog 130 := InGo.of Tryz.func130 (by kernel_rfl) (by kernel_rfl)
theorem goKeys1 : InGo Tryz.prog 95 := InGo.of Tryz.func95 (by kernel_rfl) (by kernel_rfl)
theorem AppendSeq_ok {β : Type} (cv : β → CT) (al : List (Wr × β)) (hl : al.length ≤ 1000000000) : OkJ Tryz.prog 130 [.ex (.slice none 0 0), keysC (kvs wrE cv al)] 37 2 (KeysJ (al.map (·.1))) := by
  intro S w vs hS hA
  obtain ⟨v0, v1, rfl⟩ : ∃ v0 v1, vs = [v0, v1] := by
    have := hA.length
    match vs, this with
    | [a, b], _ => exact ⟨a, b, rfl⟩
  obtain ⟨h0, h1, _⟩ := hA
  have h0 : v0 = .slice none 0 0 := h0
  subst h0
  obtain ⟨lb, h1, h2⟩ := h1
  obtain ⟨p0, rfl⟩ : ∃ p0, lb = [p0] := by
    have := h2.length
    match lb, this with
    | [a], _ => exact ⟨a, rfl⟩
  obtain ⟨⟨Bm, o, rfl, hSB, hBm, us, hc, hu⟩, _⟩ := h2
  obtain ⟨u, rfl⟩ : ∃ u, us = [u] := by
    have := hc.length
    match us, this with
    | [a], _ => exact ⟨a, rfl⟩
  obtain ⟨⟨b, hb1, hSb, hbl, es, clock, hb, hk, _, hst⟩, _⟩ := hc
  have hm : w.cell? ⟨Bm, o, none⟩ = some (.map (some b)) := by
    have := hu 0 u rfl
    rw [hb1] at this
    exact this
  have hk : es.toList.map (·.key) = (al.map (·.1)).map wrV := by rw [hk, kvs, List.map_map, List.map_map]; rfl
  have hin : ∀ args w, (callFunc 95 args).run Tryz.prog w = .ok (.enter 95 args) w := goKeys1
  have hit := keysIt Fence.wide 2 trivial rfl (by omega) w Bm o b es clock (al.map (·.1)) hBm hm hb hst hk
  have key := callsIn_wide.1 (appendSeq_in Fence.wide 3 trivial rfl (by omega) 95 #[.pointer (some ⟨Bm, o, none⟩)] trivial hin (fun ss => ss.Perm (al.map (·.1))) (al.map (·.1)).length (by rw [List.length_map]; unfold maxLen; omega) (by rw [List.length_map]; omega) w hit)
  rw [h1]
  refine key.mono ?_
  rintro e w' ⟨v, ss, rfl, hss, hrow, hbe, hdr⟩
  refine ⟨wrs ss, ⟨ss, hss, rfl⟩, v, rfl, ⟨ss.length, wrV2 ss, ownsRow_low hrow (Nat.zero_le _), wr2_cells _ _ _⟩, fun g hg => ?_, Own.Below.of hbe hdr⟩
  rcases hrow.2 with ⟨rfl, _⟩ | ⟨g', cap, cur, rfl, hbg, _⟩
  · cases hg
  · injection hg with hg; subst hg; exact hbg
theorem goCollect : InGo Tryz.prog 94 := InGo.of Tryz.func94 rfl (by decide)
theorem Collect_ok {β : Type} (cv : β → CT) (al : List (Wr × β)) (hl : al.length ≤ 1000000000) : OkJ Tryz.prog 94 [keysC (kvs wrE cv al)] 37 2 (KeysJ (al.map (·.1))) := by
  refine OkJ.enter Tryz.func94 rfl _ Tryz.ntmps94 rfl ?_
  intro S w
  (refine Qw (Qq fun K hK => ?_); refine Qv rfl rfl rfl ?_; refine Qj (hK _ _ (Qz (Qw ?_))); clear hK K; refine Qq (fun K hK => ?_); refine Qx rfl rfl rfl ?_)
  refine Ops.callJ 0 goAppendSeq (AppendSeq_ok cv al hl) rfl rfl rfl rfl rfl rfl (fun D hD => ?_)
  (refine Qv rfl rfl rfl ?_; refine Qj (hK _ _ (Qz (Q0 ?_))); clear hK K)
  refine Fin.retJ rfl rfl rfl rfl hD
theorem goSortedW : InGo Tryz.prog 47 := InGo.of Tryz.func47 rfl (by decide)
theorem SortedW_ok {β : Type} (cv : β → CT) (al : List (Wr × β)) (hl : al.length ≤ 1000000000) (hn : (al.map (·.1)).Nodup) : OkF Tryz.prog 47 [keysC (kvs wrE cv al), cmpWV] 37 2 (wrs (sd cmpW (al.map (·.1)))) := by
  refine OkF.enter Tryz.func47 rfl _ Tryz.ntmps47 rfl ?_
  intro S w
  (refine Qw (Qq fun K hK => ?_); refine Qv rfl rfl rfl ?_; refine Qj (hK _ _ (Qz (Qw ?_))); clear hK K; refine Qq (fun K hK => ?_); refine Qx rfl rfl rfl ?_)
  refine Ops.callJ 0 goCollect (Collect_ok cv al hl) rfl rfl rfl rfl rfl rfl (fun D hD => ?_)
  obtain ⟨ss, hp, rfl⟩ := hD
  have hs := SortW_ok ss (by have := hp.length_eq; rw [List.length_map] at this; omega)
  rw [ms_nodup ordW hp hn] at hs
  (refine Qv rfl rfl rfl ?_; refine Qj (hK _ _ (Qz (Qw ?_))); clear hK K; refine Qq (fun K hK => ?_); refine Qx rfl rfl rfl ?_; refine Qx rfl rfl rfl ?_)
  refine Ops.callL goSortW hs rfl rfl rfl rfl rfl ?_
  (refine Qj (hK _ _ (Qz (Qw ?_))); clear hK K; refine Qq (fun K hK => ?_); refine Qx rfl rfl rfl ?_; refine Qv rfl rfl rfl ?_; refine Qj (hK _ _ (Qz (Q0 ?_))); clear hK K)
  refine Fin.retF rfl rfl rfl rfl
end Go.Proofs.YtlkdkbdgnjcopaaGreat
namespace Go.Own
open Go.RowKit
variable {X : Ctx} {L : AL} {B : BL} {ops : Array Oper} {K : Act → World → Prop}
theorem Fin.linkX (dd i : Nat) {v : Value} {el n : Nat} {cs : List CT} (hd : look L dd = some (.ct (.ex v))) (hi : bget B i = some (.rowx v el n cs)) (h : Fin X ((dd, .own i) :: L) B K) : Fin X L B K := fun a ρ w hI => by
  have h1 : a.tmps.getD dd undef = v := hI.slot dd _ hd
  obtain ⟨h2, _⟩ := (hI.ent i _ hi).1
  exact h a ρ w (hI.slotx (s := .own i) (h1.trans h2.symm))
theorem Ops.linkX {l : Pl} (dd i : Nat) {v : Value} {el n : Nat} {cs : List CT} (hd : look L dd = some (.ct (.ex v))) (hi : bget B i = some (.rowx v el n cs)) (h : Ops X ops l ((dd, .own i) :: L) B K) : Ops X ops l L B K := Fin.linkX dd i hd hi h
theorem OkB.weak {P : Program} {f : FuncId} {t : TypeId} {cs As : List CT} {α β : Type} {J : α → Prop} {R : α → CT} {D : α → List CT} {J' : β → Prop} {R' : β → CT} {D' : β → List CT} (h : OkB P f t cs As J R D) (hw : ∀ q, J q → ∃ q', J' q' ∧ R q = R' q' ∧ D q = D' q') : OkB P f t cs As J' R' D' := fun S w g us vs h1 h2 h3 h4 h5 =>
  Calls.mono (h S w g us vs h1 h2 h3 h4 h5) (by
    rintro e w' ⟨v, q, he, hJ, hR, hD, hF⟩
    obtain ⟨q', a, b, c⟩ := hw q hJ
    exact ⟨v, q', he, a, b ▸ hR, c ▸ hD, hF⟩)
end Go.Own
namespace Go.Proofs.YtlkdkbdgnjcopaaGreat
open Go.Own
attribute [local irreducible] St Ops Go.Own.Fin Ok OkB OkN OkT OkL OkF wpR
abbrev Ad := Fin 4294967296
theorem sAdrs : SlcT Tryz.prog 28 27 1 4 (.int .u32 0) := SlcT.of Tryz.underlying28 (by kernel_rfl) rfl (by decide)
theorem sPths : SlcT Tryz.prog 111 28 1 24 (.slice none 0 0) := SlcT.of Tryz.underlying111 (by kernel_rfl) rfl (by decide)
theorem lAdrs : Ld1 Tryz.prog 28 := Ld1.of _ Tryz.underlying28 rfl
theorem lPths : Ld1 Tryz.prog 111 := Ld1.of _ Tryz.underlying111 rfl
theorem zPths : (Tryz.prog.info? 111).map (·.size) = some 1 := by kernel_rfl
abbrev zNet : Value := .agg #[.int .i64 0, .int .u32 0, .int .i64 0, .slice none 0 0, .int .u32 0]
theorem sNets : SlcT Tryz.prog 115 113 5 56 zNet := SlcT.of Tryz.underlying115 (by kernel_rfl) rfl (by decide)
theorem lNet : LdN Tryz.prog 113 5 := LdN.of _ Tryz.underlying113 rfl (by kernel_rfl)
theorem szNet : (Tryz.prog.info? 113).map (·.size) = some 5 := by kernel_rfl
theorem zvNet : (Tryz.prog.info? 113).map (·.zero) = some (some zNet) := by kernel_rfl
theorem bNet : bInfo Tryz.prog 113 = some (zNet, [(0, some 3), (3, some 1), (4, some 1)]) := by kernel_rfl
theorem fH0 : fldInfo Tryz.prog 113 0 = some (0, some 3) := by kernel_rfl
theorem fH1 : fldInfo Tryz.prog 113 1 = some (3, some 1) := by kernel_rfl
theorem fH2 : fldInfo Tryz.prog 113 2 = some (4, some 1) := by kernel_rfl
abbrev adrsC (p : List Ad) : CT := .fr (sliceT 1 (p.map fun x => [adrF x]))
def adrs (p : List Ad) : List CT := p.map adrF
theorem adrs_frozen (e : Nat) (p : List Ad) : (Ent.row e 1 (adrs p)).frozen (sliceT 1 (p.map fun x => [adrF x])) :=
  ⟨p.map fun x => [adrF x], (flat_one adrF p).symm, by simp, by decide, rfl⟩
theorem adrs_at {p : List Ad} {j : Int} (h0 : 0 ≤ j) (h : j < (p.length : Int)) : (p.map fun x => [adrF x])[j.toNat]? = some [adrF (p.getD j.toNat 0)] := by
  have hl : j.toNat < p.length := by omega
  rw [List.getElem?_map, List.getElem?_eq_getElem hl, List.getD_eq_getElem?_getD, List.getElem?_eq_getElem hl]; rfl
abbrev pthsC (ps : List (List Ad)) : CT := .fr (sliceT 1 (ps.map fun p => [adrsC p]))
def pths (ps : List (List Ad)) : List CT := ps.map adrsC
theorem pths_len (ps : List (List Ad)) : (pths ps).length = ps.length * 1 := by simp [pths]
theorem pths_frozen (e : Nat) (ps : List (List Ad)) : (Ent.row e 1 (pths ps)).frozen (sliceT 1 (ps.map fun p => [adrsC p])) :=
  ⟨ps.map fun x => [adrsC x], (flat_one adrsC ps).symm, by simp, by decide, rfl⟩
theorem pths_at {ps : List (List Ad)} {j : Int} (h0 : 0 ≤ j) (h : j < (ps.length : Int)) : (ps.map fun x => [adrsC x])[j.toNat]? = some [adrsC (ps.getD j.toNat [])] := by
  have hl : j.toNat < ps.length := by omega
  rw [List.getElem?_map, List.getElem?_eq_getElem hl, List.getD_eq_getElem?_getD, List.getElem?_eq_getElem hl]; rfl
theorem pths_get {ps : List (List Ad)} (h : 0 < ps.length) : (pths ps)[0]? = some (adrsC (ps.getD 0 [])) := by
  cases ps with
  | nil => simp at h
  | cons p q => rfl
structure Nt where
  va : Int
  ds : Ad
  pr : Int
  ps : List (List Ad)
  la : Ad
abbrev ntCs (q : Nt) : List CT := [intC q.va, adrF q.ds, intC q.pr, pthsC q.ps, adrF q.la]
structure NtIn (q : Nt) : Prop where
  v0 : 0 ≤ q.va
  v1 : q.va < 2
  d0 : q.ds ≠ 0
  p0 : q.pr = 17 ∨ q.pr = 1 ∨ q.pr = 6
  a0 : q.la ≠ 0
  l0 : 1 ≤ q.ps.length
  l1 : q.ps.length ≤ 3
  pl : ∀ p ∈ q.ps, 1 ≤ p.length ∧ p.length ≤ 3
def nts (l : List Nt) : List CT := (l.map ntCs).flatten
theorem nts_len (l : List Nt) : (nts l).length = l.length * 5 := el_len (f := ntCs) (n := 5) (fun _ => rfl) l
theorem mem_snocG {α : Type} {P : α → Prop} {xs : List α} {x : α} (h : ∀ y ∈ xs, P y) (hx : P x) : ∀ y ∈ xs ++ [x], P y := fun y hy => by
  rcases List.mem_append.1 hy with h1 | h1
  · exact h y h1
  · rcases List.mem_singleton.1 h1 with rfl; exact hx
theorem dAddr_ok (bs : List Int) (p : Nat) (hb : Bytes bs) : OkB Tryz.prog 23 78 (codes bs p) [] (fun q : Ad × Nat => q.1 ≠ 0) (fun q => adrF q.1) (fun q => codes bs q.2) :=
  (Address_ok bs p hb).weak fun q hq => ⟨(⟨q.1.toNat, by omega⟩, q.2), fun h => by
    have h := congrArg _root_.Fin.val h
    have h0 : ((0 : Ad).val) = 0 := rfl
    rw [h0] at h
    dsimp only at h
    omega, by
    show adrC q.1 = adrC ((q.1.toNat : Nat) : Int)
    rw [Int.toNat_of_nonneg (by omega)], rfl⟩
theorem goScene : InGo Tryz.prog 57 := InGo.of Tryz.func57 rfl (by decide)
set_option maxHeartbeats 8000000 in
theorem scene_ok (bs : List Int) (p : Nat) (hb : Bytes bs) : OkB Tryz.prog 57 78 (codes bs p) [] (fun q : Nt × Nat => NtIn q.1) (fun q => .fr (aggT (ntCs q.1))) (fun q => codes bs q.2) := by
  refine OkB.enter Tryz.func57 rfl _ Tryz.ntmps57 rfl ?_
  intro S w g
  (refine Qw (Qq fun K hK => ?_); refine Qg 1 rfl rfl (by with_reducible exact zvNet) rfl rfl rfl ?_; refine Qj (hK _ _ (Qz (Qw ?_))); clear hK K; refine Qq (fun K hK => ?_); refine Qx rfl rfl rfl ?_)
  refine Xw goTrace (Trace_ok bs p hb) rfl rfl rfl rfl rfl (fun q hq => ?_)
  obtain ⟨va, ds, pr, p1⟩ := q
  dsimp only at hq ⊢
  refine Qs rfl (by with_reducible exact bNet) rfl (.agg rfl rfl rfl rfl .nil) rfl ?_
  (refine Qg 2 rfl rfl (by with_reducible exact zvNet) rfl rfl rfl ?_; refine Qc 5 rfl rfl rfl rfl rfl (by with_reducible exact szNet) rfl rfl ?_; refine Qj (hK _ _ (Qz (Qw ?_))); clear hK K; refine Qq (fun K hK => ?_); refine QV rfl rfl rfl (by with_reducible first | exact fH0 | exact fH1 | exact fH2 | exact fS0 | exact fS1 | exact fS2 | exact fS3 | exact fS4 | exact fS5 | exact fS6 | exact fS7 | exact fS8 | exact fS9 | exact fS10 | exact fS11) rfl ?_; refine X7 rfl rfl (by with_reducible first | exact fR0t | exact fR1t | exact fR2t | exact fN0 | exact fN1 | exact fN4) rfl ?_; refine QJ rfl rfl rfl rfl rfl (by with_reducible first | exact lInt | exact Qa | exact lAdrs | exact lPths | exact Q5) rfl ?_; refine QV rfl rfl rfl (by with_reducible first | exact fH0 | exact fH1 | exact fH2 | exact fS0 | exact fS1 | exact fS2 | exact fS3 | exact fS4 | exact fS5 | exact fS6 | exact fS7 | exact fS8 | exact fS9 | exact fS10 | exact fS11) rfl ?_; refine X6 rfl rfl rfl rfl rfl (by with_reducible first | exact zAddr | exact zInt | exact zPths | exact zBool1) (Nat.le_of_ble_eq_true rfl) ?_; refine Qj (hK _ _ (Qz (Qw (Qw ?_)))); clear hK K; refine Qq (fun K hK => ?_); refine Qx rfl rfl rfl ?_)
  refine Xw goBool (BoolB_ok bs p1 4 (by decide) (by decide) hb) rfl rfl rfl rfl rfl (fun q _ => ?_)
  obtain ⟨b1, p2⟩ := q
  dsimp only
  (refine Qj (hK _ _ (Qz ?_)); clear hK K)
  refine ZU (α := Ad × Nat) (fun x => x.1 ≠ 0) (fun _ => [(0, .own 0), (2, .own 1), (3, .own 2)]) (fun x => [(2, .box 113 [intC va, adrF ds, intC pr, .ex (.slice none 0 0), adrF x.1]), (1, .box 113 (zNet.cells.toList.map CT.ex)), (0, .box 78 (codes bs x.2))]) (fun x hla => ?_) (fun KK hN => ?_)
  rotate_left
  · refine Xy rfl (fun _ => ?_) (fun _ => ?_)
    · (refine Qq (fun K hK => ?_); refine Qx rfl rfl rfl ?_)
      refine Xw goAddress (dAddr_ok bs p2 hb) rfl rfl rfl rfl rfl (fun q hla => ?_)
      obtain ⟨a, p3⟩ := q
      dsimp only at hla ⊢
      (refine QV rfl rfl rfl (by with_reducible first | exact fH0 | exact fH1 | exact fH2 | exact fS0 | exact fS1 | exact fS2 | exact fS3 | exact fS4 | exact fS5 | exact fS6 | exact fS7 | exact fS8 | exact fS9 | exact fS10 | exact fS11) rfl ?_; refine X6 rfl rfl rfl rfl rfl (by with_reducible first | exact zAddr | exact zInt | exact zPths | exact zBool1) (Nat.le_of_ble_eq_true rfl) ?_; refine Qj (hK _ _ ?_); clear hK K)
      exact Xq hN (a, p3) hla (by exact QX rfl ⟨rfl, rfl, rfl, trivial⟩)
    · (refine Q1 ?_)
      exact Xq hN (ds, p2) hq.2.1 (by exact QX rfl ⟨rfl, rfl, rfl, trivial⟩)
  obtain ⟨la, p4⟩ := x
  dsimp only at hla ⊢
  (refine Qw (Qq fun K hK => ?_); refine Qx rfl rfl rfl ?_)
  refine Xw goNext (Next_ok bs p4 3 (by decide) (by decide) hb) rfl rfl rfl rfl rfl (fun q hq2 => ?_)
  obtain ⟨lo, p5⟩ := q
  dsimp only at hq2 ⊢
  (refine Qk (iadd (by omega) (by omega)) rfl rfl rfl rfl ?_; refine Qv rfl rfl rfl ?_; refine Qj (hK _ _ (Qz (Qw (Qw ?_)))); clear hK K; refine Qq (fun K hK => ?_); refine Qv rfl rfl rfl ?_; refine Qj (hK _ _ (Qz (Q4 ?_))); clear hK K)
  refine St.nilX 3 28 1 rfl rfl ?_
  refine Xj (α := Int × List (List Ad) × Value × Nat) (fun x => x.1 = x.2.1.length ∧ x.2.1.length ≤ 3 ∧ (∀ q ∈ x.2.1, 1 ≤ q.length ∧ q.length ≤ 3) ∧ x.2.2.1.oneCell' = true)
    (fun x => [(0, .own 0), (2, .own 1), (3, .own 2), (4, .ct (intC (1 + lo))), (5, .ct (intC x.1))])
    (fun x => [(3, .rowx x.2.2.1 28 1 (pths x.2.1)), (2, .box 113 [intC va, adrF ds, intC pr, .ex x.2.2.1, adrF la]), (1, .box 113 (zNet.cells.toList.map CT.ex)), (0, .box 78 (codes bs x.2.2.2))])
    (fun x => 3 - x.2.1.length) (0, [], .slice none 0 0, p5) ⟨rfl, by simp, by simp, rfl⟩ (by exact QX rfl ⟨rfl, rfl, rfl, rfl, rfl, trivial⟩) ?_
  rintro ⟨f, ps, v, p6⟩ ⟨hf, hfl, hps, hv⟩
  dsimp only at hf hfl hps hv ⊢
  (refine Qw (Qw (Qq fun K hK => ?_)); refine Qx rfl rfl rfl ?_; refine Qx rfl rfl rfl ?_)
  refine Xw goNext (Next_ok bs p6 3 (by decide) (by decide) hb) rfl rfl rfl rfl rfl (fun q hq3 => ?_)
  obtain ⟨x, p7⟩ := q
  dsimp only at hq3 ⊢
  (refine Qk (iadd (by omega) (by omega)) rfl rfl rfl rfl ?_; refine Qk ilss rfl rfl rfl rfl ?_; refine Qj (hK _ _ (Qz ?_)); clear hK K)
  refine Q2 rfl (fun hk => ?_) (fun hk => ?_)
  · (refine Q1 (Qz (Qw (Q4 (Qw (Qq fun K hK => ?_))))); refine Qv rfl rfl rfl ?_; refine Qj (hK _ _ (Qz (Qw (Qw ?_)))); clear hK K; refine Qq (fun K hK => ?_); refine Qv rfl rfl rfl ?_; refine Qj (hK _ _ (Qz (Q4 ?_))); clear hK K)
    refine Xe 6 4 27 1 rfl rfl rfl ?_
    skip
    refine Xj (α := Int × List Ad × Nat) (fun x => 0 ≤ x.1 ∧ x.2.1.length = x.1 ∧ x.1 ≤ 1 + lo)
      (fun x => [(0, .own 0), (2, .own 1), (3, .own 2), (4, .ct (intC (1 + lo))), (5, .ct (intC f)), (6, .own 4), (7, .ct (intC x.1))])
      (fun x => [(4, .row 27 1 (adrs x.2.1)), (3, .rowx v 28 1 (pths ps)), (2, .box 113 [intC va, adrF ds, intC pr, .ex v, adrF la]), (1, .box 113 (zNet.cells.toList.map CT.ex)), (0, .box 78 (codes bs x.2.2))])
      (fun x => (1 + lo - x.1).toNat) (0, [], p7) ⟨by dsimp only; omega, rfl, by dsimp only; omega⟩ (by exact QX rfl ⟨rfl, rfl, rfl, rfl, rfl, rfl, rfl, trivial⟩) ?_
    rintro ⟨i, pp, p8⟩ ⟨hi0, hil, hi1⟩
    dsimp only at hi0 hil hi1 ⊢
    (refine Qw (Qw (Qq fun K hK => ?_)); refine Qx rfl rfl rfl ?_; refine Qx rfl rfl rfl ?_; refine Qk ilss rfl rfl rfl rfl ?_; refine Qj (hK _ _ (Qz ?_)); clear hK K)
    refine Q2 rfl (fun hi => ?_) (fun hi => ?_)
    · (refine Q1 (Qz (Qw (Q4 (Qw (Qq fun K hK => ?_))))); refine Qx rfl rfl rfl ?_)
      refine Xw goAddress (dAddr_ok bs p8 hb) rfl rfl rfl rfl rfl (fun q _ => ?_)
      obtain ⟨a0, p9⟩ := q
      dsimp only
      (refine Qv rfl rfl rfl ?_; refine Qj (hK _ _ (Qz (Qw (Qw ?_)))); clear hK K; refine Qq (fun K hK => ?_); refine Qx rfl rfl rfl ?_)
      refine Xw goBool (BoolB_ok bs p9 6 (by decide) (by decide) hb) rfl rfl rfl rfl rfl (fun q _ => ?_)
      obtain ⟨b2, p10⟩ := q
      dsimp only
      (refine Qj (hK _ _ (Qz ?_)); clear hK K)
      refine ZU (α := Ad) (fun _ => True) (fun a => [(0, .own 0), (2, .own 1), (3, .own 2), (4, .ct (intC (1 + lo))), (5, .ct (intC f)), (6, .own 4), (7, .ct (intC i)), (8, .ct (adrF a))])
        (fun _ => [(4, .row 27 1 (adrs pp)), (3, .rowx v 28 1 (pths ps)), (2, .box 113 [intC va, adrF ds, intC pr, .ex v, adrF la]), (1, .box 113 (zNet.cells.toList.map CT.ex)), (0, .box 78 (codes bs p10))]) (fun a _ => ?_) (fun KK hN => ?_)
      rotate_left
      · refine Xy rfl (fun _ => ?_) (fun _ => ?_)
        · (refine Qq (fun K hK => ?_); refine Qv rfl rfl rfl ?_; refine Qj (hK _ _ ?_); clear hK K)
          exact Xq hN 0 trivial (by exact QX rfl ⟨rfl, rfl, rfl, rfl, rfl, rfl, rfl, rfl, trivial⟩)
        · (refine Q1 ?_)
          exact Xq hN a0 trivial (by exact QX rfl ⟨rfl, rfl, rfl, rfl, rfl, rfl, rfl, rfl, trivial⟩)
      (refine Qw (Qw (Qq fun K hK => ?_)); refine Qx rfl rfl rfl ?_; refine Qk igtr rfl rfl rfl rfl ?_; refine Qx rfl rfl rfl ?_)
      refine Q6 42 (p := 0 < f) rfl (fun h0 => ?_) (fun h0 => ?_)
      · have hp0 : 0 < ps.length := by omega
        (refine Qx rfl rfl rfl ?_; refine QV rfl rfl rfl (by with_reducible first | exact fH0 | exact fH1 | exact fH2 | exact fS0 | exact fS1 | exact fS2 | exact fS3 | exact fS4 | exact fS5 | exact fS6 | exact fS7 | exact fS8 | exact fS9 | exact fS10 | exact fS11) rfl ?_; refine QJ rfl rfl rfl rfl rfl (by with_reducible first | exact lInt | exact Qa | exact lAdrs | exact lPths | exact Q5) rfl ?_)
        refine Ops.linkX 45 3 rfl rfl ?_
        refine Ops.idxX ps.length rfl rfl rfl (pths_len ps) rfl (by with_reducible exact sPths) (by decide) (by omega) rfl ?_
        refine QJ rfl rfl rfl rfl (pths_get hp0) (by with_reducible exact lAdrs) rfl ?_
        (refine Qd rfl rfl (by with_reducible first | exact sAdrs.und | exact sPths.und | exact sRes.und) (List.length_map ..) rfl ?_; refine Qk ilss rfl rfl rfl rfl ?_; refine QZ rfl rfl rfl rfl ?_; refine Qx rfl rfl rfl ?_)
        refine Q6 51 (p := i < ((ps.getD 0 []).length : Int)) rfl (fun h1 => ?_) (fun h1 => ?_)
        · (refine Qx rfl rfl rfl ?_)
          refine Xw goBool (BoolB_ok bs p10 3 (by decide) (by decide) hb) rfl rfl rfl rfl rfl (fun q _ => ?_)
          obtain ⟨b3, p11⟩ := q
          dsimp only
          (refine Qm rfl rfl rfl ?_; refine QZ rfl rfl rfl rfl ?_; refine Qj (hK _ _ (Qz ?_)); clear hK K)
          refine Xy rfl (fun _ => ?_) (fun _ => ?_)
          · (refine Qq (fun K hK => ?_); refine QV rfl rfl rfl (by with_reducible first | exact fH0 | exact fH1 | exact fH2 | exact fS0 | exact fS1 | exact fS2 | exact fS3 | exact fS4 | exact fS5 | exact fS6 | exact fS7 | exact fS8 | exact fS9 | exact fS10 | exact fS11) rfl ?_; refine QJ rfl rfl rfl rfl rfl (by with_reducible first | exact lInt | exact Qa | exact lAdrs | exact lPths | exact Q5) rfl ?_)
            refine Ops.linkX 57 3 rfl rfl ?_
            refine Ops.idxX ps.length rfl rfl rfl (pths_len ps) rfl (by with_reducible exact sPths) (by decide) (by omega) rfl ?_
            refine QJ rfl rfl rfl rfl (pths_get hp0) (by with_reducible exact lAdrs) rfl ?_
            (refine Qx rfl rfl rfl ?_; refine Ql rfl rfl rfl (by with_reducible exact sAdrs) (by omega) (adrs_at (by omega) (by omega)) rfl ?_; refine XQ rfl rfl rfl (by with_reducible first | exact Qa | exact lAdrs) rfl ?_; refine Qv rfl rfl rfl ?_; refine Qj (hK _ _ (Qz ?_)); clear hK K; refine Qq (fun K hK => ?_); refine Qx rfl rfl rfl ?_; refine Qx rfl rfl rfl ?_)
            refine Zq rfl rfl (by with_reducible exact sAdrs) rfl rfl rfl ?_
            refine Qt pp.length (adrs (pp ++ [(ps.getD 0 []).getD i.toNat 0])) rfl rfl rfl rfl (by with_reducible exact sAdrs) (by simp [adrs]) rfl (by omega) (by omega) (by simp [adrs]) rfl ?_
            (refine Qv rfl rfl rfl ?_; refine Qj (hK _ _ (Qz ?_)); clear hK K; refine Qq (fun K hK => ?_); refine Qx rfl rfl rfl ?_; refine Qk (iadd (by omega) (by omega)) rfl rfl rfl rfl ?_; refine Qv rfl rfl rfl ?_; refine Qj (hK _ _ (Q3 ?_)); clear hK K)
            refine Q9 (i + 1, pp ++ [(ps.getD 0 []).getD i.toNat 0], p11) (by dsimp only; omega) ⟨by dsimp only; omega, by simp; omega, by dsimp only; omega⟩ (by exact QX rfl ⟨rfl, rfl, rfl, rfl, rfl, rfl, rfl, trivial⟩)
          · skip
            (refine Q1 (Qz (Qq fun K hK => ?_)); refine Qx rfl rfl rfl ?_; refine Qx rfl rfl rfl ?_)
            refine Zq rfl rfl (by with_reducible exact sAdrs) rfl rfl rfl ?_
            refine Qt pp.length (adrs (pp ++ [a])) rfl rfl rfl rfl (by with_reducible exact sAdrs) (by simp [adrs]) rfl (by omega) (by omega) (by simp [adrs]) rfl ?_
            (refine Qv rfl rfl rfl ?_; refine Qj (hK _ _ (Qz ?_)); clear hK K; refine Qq (fun K hK => ?_); refine Qx rfl rfl rfl ?_; refine Qk (iadd (by omega) (by omega)) rfl rfl rfl rfl ?_; refine Qv rfl rfl rfl ?_; refine Qj (hK _ _ (Q3 ?_)); clear hK K)
            refine Q9 (i + 1, pp ++ [a], p11) (by dsimp only; omega) ⟨by dsimp only; omega, by simp; omega, by dsimp only; omega⟩ (by exact QX rfl ⟨rfl, rfl, rfl, rfl, rfl, rfl, rfl, trivial⟩)
        · skip
          (refine Qy rfl rfl rfl ?_; refine Qy rfl rfl rfl ?_; refine Qy rfl rfl rfl ?_; refine QU rfl rfl rfl rfl ?_; refine Qj (hK _ _ (Qz (Xv rfl (Q1 (Qz ?_))))); clear hK K; refine Qq (fun K hK => ?_); refine Qx rfl rfl rfl ?_; refine Qx rfl rfl rfl ?_)
          refine Zq rfl rfl (by with_reducible exact sAdrs) rfl rfl rfl ?_
          refine Qt pp.length (adrs (pp ++ [a])) rfl rfl rfl rfl (by with_reducible exact sAdrs) (by simp [adrs]) rfl (by omega) (by omega) (by simp [adrs]) rfl ?_
          (refine Qv rfl rfl rfl ?_; refine Qj (hK _ _ (Qz ?_)); clear hK K; refine Qq (fun K hK => ?_); refine Qx rfl rfl rfl ?_; refine Qk (iadd (by omega) (by omega)) rfl rfl rfl rfl ?_; refine Qv rfl rfl rfl ?_; refine Qj (hK _ _ (Q3 ?_)); clear hK K)
          refine Q9 (i + 1, pp ++ [a], p10) (by dsimp only; omega) ⟨by dsimp only; omega, by simp; omega, by dsimp only; omega⟩ (by exact QX rfl ⟨rfl, rfl, rfl, rfl, rfl, rfl, rfl, trivial⟩)
      · skip
        (refine Qy rfl rfl rfl ?_; refine Qy rfl rfl rfl ?_; refine Qy rfl rfl rfl ?_; refine Qy rfl rfl rfl ?_; refine Qy rfl rfl rfl ?_; refine Qy rfl rfl rfl ?_; refine Qy rfl rfl rfl ?_; refine QU rfl rfl rfl rfl ?_; refine Qx rfl rfl rfl ?_; refine Qy rfl rfl rfl ?_; refine Qy rfl rfl rfl ?_; refine Qy rfl rfl rfl ?_; refine QU rfl rfl rfl rfl ?_; refine Qj (hK _ _ (Qz (Xv rfl (Q1 (Qz ?_))))); clear hK K; refine Qq (fun K hK => ?_); refine Qx rfl rfl rfl ?_; refine Qx rfl rfl rfl ?_)
        refine Zq rfl rfl (by with_reducible exact sAdrs) rfl rfl rfl ?_
        refine Qt pp.length (adrs (pp ++ [a])) rfl rfl rfl rfl (by with_reducible exact sAdrs) (by simp [adrs]) rfl (by omega) (by omega) (by simp [adrs]) rfl ?_
        (refine Qv rfl rfl rfl ?_; refine Qj (hK _ _ (Qz ?_)); clear hK K; refine Qq (fun K hK => ?_); refine Qx rfl rfl rfl ?_; refine Qk (iadd (by omega) (by omega)) rfl rfl rfl rfl ?_; refine Qv rfl rfl rfl ?_; refine Qj (hK _ _ (Q3 ?_)); clear hK K)
        refine Q9 (i + 1, pp ++ [a], p10) (by dsimp only; omega) ⟨by dsimp only; omega, by simp; omega, by dsimp only; omega⟩ (by exact QX rfl ⟨rfl, rfl, rfl, rfl, rfl, rfl, rfl, trivial⟩)
    · refine St.frz 4 _ rfl (adrs_frozen _ _) (Yk rfl) ?_
      (refine Qp (Qz (Qq fun K hK => ?_)); refine QV rfl rfl rfl (by with_reducible first | exact fH0 | exact fH1 | exact fH2 | exact fS0 | exact fS1 | exact fS2 | exact fS3 | exact fS4 | exact fS5 | exact fS6 | exact fS7 | exact fS8 | exact fS9 | exact fS10 | exact fS11) rfl ?_; refine QJ rfl rfl rfl rfl rfl (by with_reducible first | exact lInt | exact Qa | exact lAdrs | exact lPths | exact Q5) rfl ?_; refine Qx rfl rfl rfl ?_)
      refine Zq rfl rfl (by with_reducible exact sPths) rfl rfl rfl ?_
      refine Ops.link 68 3 rfl rfl ?_
      refine Qt ps.length (pths (ps ++ [pp])) rfl rfl rfl rfl (by with_reducible exact sPths) (pths_len ps) rfl (by omega) (by omega) (by simp [pths]) rfl ?_
      (refine QV rfl rfl rfl (by with_reducible first | exact fH0 | exact fH1 | exact fH2 | exact fS0 | exact fS1 | exact fS2 | exact fS3 | exact fS4 | exact fS5 | exact fS6 | exact fS7 | exact fS8 | exact fS9 | exact fS10 | exact fS11) rfl ?_)
      refine Ops.name 71 3 rfl rfl (fun v' hv' => ?_)
      refine X6 (c := .ex v') rfl rfl rfl rfl hv' (by with_reducible exact zPths) (Nat.le_of_ble_eq_true rfl) ?_
      (refine Qj (hK _ _ (Qz ?_)); clear hK K; refine Qq (fun K hK => ?_); refine Qx rfl rfl rfl ?_; refine Qk (iadd (by omega) (by omega)) rfl rfl rfl rfl ?_; refine Qv rfl rfl rfl ?_; refine Qj (hK _ _ (Q3 ?_)); clear hK K)
      refine Q9 (f + 1, ps ++ [pp], v', p8) (by simp; omega) ⟨by simp; omega, by simp; omega, mem_snocG hps (by omega), hv'⟩ (by exact QX rfl ⟨rfl, rfl, rfl, rfl, rfl, trivial⟩)
  · refine St.frzX 3 2 3 _ rfl rfl rfl (pths_frozen _ _) (Yk rfl) ?_
    (refine Qp (Qz (Qw (Qq fun K hK => ?_))); refine Q7 (n := 5) rfl rfl rfl rfl rfl (by with_reducible exact lNet) rfl ?_; refine Qc 5 rfl rfl rfl rfl rfl (by with_reducible exact szNet) rfl rfl ?_; refine Qj (hK _ _ (Qz (Q0 ?_))); clear hK K)
    refine Fin.endB (⟨va, ds, pr, ps, la⟩, p7) [_] rfl (Qi (n := 5) rfl rfl (by with_reducible exact lNet) rfl QQ) rfl rfl ⟨hq.1.1, hq.1.2, hq.2.1, hq.2.2, hla, by dsimp only; omega, hfl, hps⟩
end Go.Proofs.YtlkdkbdgnjcopaaGreat
namespace Go.Proofs.YtlkdkbdgnjcopaaGreat
open Go.Own Go.Limbs
attribute [local irreducible] St Ops Go.Own.Fin Ok OkB OkN OkT OkL OkF
abbrev spE (s : Sp) : Value := Go.Own.encI [.i64, .i64] [s.1, s.2]
theorem eqSp : EqS Tryz.prog 188 [.i64, .i64] := ⟨by kernel_rfl, by kernel_rfl, by kernel_rfl, by kernel_rfl⟩
theorem X8 : KeyT Tryz.prog 188 spE := eqSp.flat.key (fun s : Sp => [s.1, s.2]) (fun _ => rfl) (fun a b h => by
  obtain ⟨a1, a2⟩ := a; obtain ⟨b1, b2⟩ := b
  simp only [List.cons.injEq, and_true] at h
  rw [h.1, h.2])
theorem uMAd : Tryz.prog.underlying 181 = some (.map 188 27) := Tryz.underlying181
theorem uMSt : Tryz.prog.underlying 182 = some (.map 188 3) := Tryz.underlying182
theorem lMAd : Ld1 Tryz.prog 181 := Ld1.of _ Tryz.underlying181 rfl
theorem lMSt : Ld1 Tryz.prog 182 := Ld1.of _ Tryz.underlying182 rfl
theorem fV0 : fldInfo Tryz.prog 184 0 = some (0, some 1) := by kernel_rfl
theorem fV1 : fldInfo Tryz.prog 184 1 = some (1, some 1) := by kernel_rfl
theorem fV2 : fldInfo Tryz.prog 184 2 = some (2, some 1) := by kernel_rfl
theorem lView : LdN Tryz.prog 184 3 := LdN.of _ Tryz.underlying184 rfl (by kernel_rfl)
theorem szView : (Tryz.prog.info? 184).map (·.size) = some 3 := by kernel_rfl
theorem zvView : (Tryz.prog.info? 184).map (·.zero) = some (some (.agg #[.int .i64 0, .map none, .map none])) := by kernel_rfl
theorem bView : bInfo Tryz.prog 184 = some (.agg #[.int .i64 0, .map none, .map none], [(0, some 1), (1, some 1), (2, some 1)]) := by kernel_rfl
theorem YW : LdN Tryz.prog 188 2 := LdN.of _ Tryz.underlying188 rfl (by kernel_rfl)
theorem szSpot : (Tryz.prog.info? 188).map (·.size) = some 2 := by kernel_rfl
theorem zvSpot : (Tryz.prog.info? 188).map (·.zero) = some (some (.agg #[.int .i64 0, .int .i64 0])) := by kernel_rfl
theorem bSpot : bInfo Tryz.prog 188 = some (.agg #[.int .i64 0, .int .i64 0], [(0, some 1), (1, some 1)]) := by kernel_rfl
theorem z0Int (w : World) : (zeroValue 3).run Tryz.prog w = .ok (.int .i64 0) w := Xc (by kernel_rfl) w
theorem z0Adr (w : World) : (zeroValue 27).run Tryz.prog w = .ok (.int .u32 0) w := Xc (by kernel_rfl) w
abbrev adM (m : AdM) : List (Value × CT) := kvs spE adrF m
abbrev stM (m : StM) : List (Value × CT) := kvs spE intC m
abbrev viewC (e : Int) (m : AdM × StM) : CT := .fr (aggT [intC e, .fr (mapT (adM m.1)), .fr (mapT (stM m.2))])
theorem goHas : InGo Tryz.prog 129 := InGo.of Tryz.func129 rfl (by decide)
theorem Has_ok (e fl tt : Int) (m : AdM × StM) : Ok Tryz.prog 129 [viewC e m, intC fl, intC tt] (boolC (hasS m.2 fl tt)) := by
  have e0 : hasS m.2 fl tt = (decide ((look1 m.2 (fl, tt)).getD 0 = 2) || decide ((look1 m.2 (fl, tt)).getD 0 = 1)) := rfl
  refine Ok.enter Tryz.func129 rfl _ Tryz.ntmps129 rfl ?_
  intro S w
  (refine Qw (Qq fun K hK => ?_); refine Xk 0 rfl rfl rfl rfl rfl rfl rfl ?_; refine Qv rfl rfl rfl ?_; refine Qj (hK _ _ (Qz (Qw ?_))); clear hK K; refine Qq (fun K hK => ?_); refine QV rfl rfl rfl (by with_reducible first | exact fV0 | exact fV1 | exact fV2) rfl ?_; refine QJ rfl rfl rfl rfl rfl (by with_reducible first | exact lMSt | exact lMAd) rfl ?_; refine Qx rfl rfl rfl ?_; refine Qx rfl rfl rfl ?_)
  refine Qs rfl (by with_reducible exact bSpot) rfl (.one rfl rfl rfl rfl (.one rfl rfl rfl rfl .nil)) rfl ?_
  refine Ops.lookF (cv := intC) (enc := spE) 0 (fl, tt) rfl rfl rfl (KeyIs.agg (us := [.int .i64 fl, .int .i64 tt]) rfl) uMSt z0Int (fun _ _ => rfl) X8 rfl ?_
  generalize (look1 m.2 (fl, tt)).getD 0 = q at e0
  (refine Qv rfl rfl rfl ?_; refine Qj (hK _ _ (Qz (Qw ?_))); clear hK K; refine Qq (fun K hK => ?_); refine Qx rfl rfl rfl ?_; refine Qk ieql rfl rfl rfl rfl ?_; refine Qx rfl rfl rfl ?_)
  refine Q6 16 (p := q = 2) rfl (fun h => ?_) (fun h => ?_)
  · (refine Qy rfl rfl rfl ?_; refine Qy rfl rfl rfl ?_; refine QZ rfl rfl rfl rfl ?_; refine Qv rfl rfl rfl ?_; refine Qj (hK _ _ (Qz (Q0 ?_))); clear hK K)
    refine QK [_] rfl (Qu rfl QQ) (by rw [e0, decide_eq_true h, Bool.true_or]; rfl) rfl
  · (refine Qx rfl rfl rfl ?_; refine Qk ieql rfl rfl rfl rfl ?_; refine QU rfl rfl rfl rfl ?_; refine Qv rfl rfl rfl ?_; refine Qj (hK _ _ (Qz (Q0 ?_))); clear hK K)
    refine QK [_] rfl (Qu rfl QQ) (by rw [e0, decide_eq_false h, Bool.false_or]; rfl) rfl
theorem goLook : InGo Tryz.prog 128 := InGo.of Tryz.func128 rfl (by decide)
set_option maxHeartbeats 8000000 in
theorem Look_ok (l : List Rs) (hl : l.length ≤ 100000) : Ok Tryz.prog 128 [rssC l] (viewC (endF l) (lookG l)) := by
  have hE := End_ok l hl
  have e0 : lookG l = l.foldl (lookS (endF l)) ([], []) := rfl
  rw [e0]
  clear e0
  generalize endF l = e at hE ⊢
  refine Ok.enter Tryz.func128 rfl _ Tryz.ntmps128 rfl ?_
  intro S w
  (refine Qw (Qq fun K hK => ?_); refine Qg 0 rfl rfl (by with_reducible exact zvView) rfl rfl rfl ?_; refine Qj (hK _ _ (Qz (Qw ?_))); clear hK K; refine Qq (fun K hK => ?_); refine Qx rfl rfl rfl ?_)
  refine QW goEnd hE rfl rfl rfl rfl ?_
  refine Zp 8 rfl rfl rfl rfl rfl (fun v1 hv1 => ?_)
  refine Zp 9 rfl rfl rfl rfl rfl (fun v2 hv2 => ?_)
  refine Qs rfl (by with_reducible exact bView) rfl (.one rfl rfl rfl rfl (.one rfl rfl hv1 rfl (.one rfl rfl hv2 rfl .nil))) rfl ?_
  refine Qg 1 rfl rfl (by with_reducible exact zvView) rfl rfl rfl ?_
  refine Qc 3 rfl rfl rfl rfl (by show (true && (Value.oneCell' v1 && (Value.oneCell' v2 && true))) = true; rw [hv1, hv2]; rfl) (by with_reducible exact szView) rfl rfl ?_
  (refine Qj (hK _ _ (Qz (Qw (Qw ?_)))); clear hK K; refine Qq (fun K hK => ?_); refine Qx rfl rfl rfl ?_; refine Qd rfl rfl (by with_reducible exact sRes.und) (List.length_map ..) rfl ?_; refine Qx rfl rfl rfl ?_; refine Qj (hK _ _ (Qz (Q4 ?_))); clear hK K)
  refine Xj (α := Nat) (fun i => i ≤ l.length)
    (fun i => [(2, .own 0), (3, .own 1), (13, .ct (rssC l)), (14, .ct (intC l.length)), (15, .ct (intC i))])
    (fun i => [(1, .box 184 [intC e, .ex v1, .ex v2]), (9, .mpx v2 (stM ((l.take i).foldl (lookS e) ([], [])).2)), (8, .mpx v1 (adM ((l.take i).foldl (lookS e) ([], [])).1)), (0, .box 184 [intC 0, .ex (.map none), .ex (.map none)])])
    (fun i => l.length - i) 0 (Nat.zero_le _) (by exact QX rfl ⟨rfl, rfl, rfl, rfl, rfl, trivial⟩) ?_
  intro i hi
  try dsimp only at hi ⊢
  (refine Qw (Qq fun K hK => ?_); refine Qk ilss rfl rfl rfl rfl ?_; refine Qj (hK _ _ (Qz (Qw ?_))); clear hK K)
  refine Q2 rfl (fun h => ?_) (fun h => ?_)
  · have e2 : (i : Int).toNat = i := Int.toNat_natCast i
    have hs := foldl_take (lookS e) ([], []) (z := rs0) (l := l) (i := i) (by omega)
    generalize (l.take i).foldl (lookS e) ([], []) = m at hs ⊢
    have next : ∀ m' : AdM × StM, lookS e m (l.getD i rs0) = m' → (l.take (i + 1)).foldl (lookS e) ([], []) = m' := fun m' h => by rw [hs, h]
    clear hs
    refine Q1 ?_
    refine Qz ?_
    refine Qw ?_
    refine ZU (α := AdM × StM) (fun q => lookS e m (l.getD i rs0) = q) (fun _ => [(2, .own 0), (3, .own 1), (13, .ct (rssC l)), (14, .ct (intC l.length)), (15, .ct (intC i))])
      (fun q => [(1, .box 184 [intC e, .ex v1, .ex v2]), (9, .mpx v2 (stM q.2)), (8, .mpx v1 (adM q.1)), (0, .box 184 [intC 0, .ex (.map none), .ex (.map none)])]) (fun q hq => ?_) (fun KN hM => ?_)
    · have en := next q hq
      (refine Qq (fun K hK => ?_); refine Qk (iadd (by omega) (by omega)) rfl rfl rfl rfl ?_; refine Qx rfl rfl rfl ?_; refine Qj (hK _ _ (Q3 ?_)); clear hK K)
      refine Q9 (i + 1) (by omega) (by omega) (by rw [en]; exact QX rfl ⟨rfl, rfl, rfl, rfl, by simp only [Int.natCast_add]; rfl, trivial⟩)
    clear next
    refine Q4 ?_
    refine Qw ?_
    refine Qq (fun K hK => ?_)
    refine Ql rfl rfl rfl (by with_reducible exact sRes) (by omega) (Z9 (by omega) (by omega)) rfl ?_
    rw [e2]
    generalize l.getD i rs0 = c at hM ⊢
    refine XW (n := 17) rfl rfl rfl (by with_reducible exact lRes) rfl rfl ?_
    refine Qg 2 rfl rfl (by with_reducible exact zvRes) rfl rfl rfl ?_
    refine Qc 17 rfl rfl rfl rfl rfl (by with_reducible exact szRes) rfl rfl ?_
    refine Qj (hK _ _ ?_)
    clear hK K
    refine Qz ?_
    have hU := Usable_ok c
    have es : lookS e m c = if usR c = false ∨ (0 < e ∧ e < c.tt) then m
      else if c.an = false then (m.1, ins m.2 (c.fl, c.tt) (max ((look1 m.2 (c.fl, c.tt)).getD 0) 1))
      else if (look1 m.2 (c.fl, c.tt)).getD 0 ≤ 1 then (ins m.1 (c.fl, c.tt) c.fr, ins m.2 (c.fl, c.tt) 2)
      else if (look1 m.2 (c.fl, c.tt)).getD 0 = 2 ∧ (look1 m.1 (c.fl, c.tt)).getD 0 ≠ c.fr then (ins m.1 (c.fl, c.tt) 0, ins m.2 (c.fl, c.tt) 3)
      else m := rfl
    generalize usR c = ub at hU es
    refine Qw ?_
    refine Qw ?_
    refine ZU (α := Bool) (fun b => b = true ↔ (ub = false ∨ (0 < e ∧ e < c.tt)))
      (fun b => [(2, .own 0), (3, .own 1), (5, .own 2), (13, .ct (rssC l)), (14, .ct (intC l.length)), (15, .ct (intC i)), (33, .ct (boolC b))])
      (fun _ => [(2, .box 35 (rsCs c)), (1, .box 184 [intC e, .ex v1, .ex v2]), (9, .mpx v2 (stM m.2)), (8, .mpx v1 (adM m.1)), (0, .box 184 [intC 0, .ex (.map none), .ex (.map none)])]) (fun b hb => ?_) (fun KK hN => ?_)
    rotate_left
    · (refine Qq (fun K hK => ?_); refine Q7 (n := 17) rfl rfl rfl rfl rfl (by with_reducible exact lRes) rfl ?_)
      refine QW goUsable hU rfl rfl rfl rfl ?_
      (refine Qm rfl rfl rfl ?_; refine Qx rfl rfl rfl ?_)
      refine X5 22 (b := !ub) rfl (fun h1 => ?_) (fun h1 => ?_)
      · (refine Qy rfl rfl rfl ?_; refine Qy rfl rfl rfl ?_; refine Qy rfl rfl rfl ?_; refine Qy rfl rfl rfl ?_; refine Qy rfl rfl rfl ?_; refine Qy rfl rfl rfl ?_; refine Qy rfl rfl rfl ?_; refine Qy rfl rfl rfl ?_; refine Qy rfl rfl rfl ?_; refine Qy rfl rfl rfl ?_; refine QZ rfl rfl rfl rfl ?_; refine Qj (hK _ _ ?_); clear hK K)
        exact Xq hN true (iff_of_true rfl (.inl (by simpa using h1))) (by exact QX rfl ⟨rfl, rfl, rfl, rfl, rfl, rfl, rfl, trivial⟩)
      · have hub : ub = true := by simpa using h1
        (refine QV rfl rfl rfl (by with_reducible first | exact fV0 | exact fV1 | exact fV2) rfl ?_; refine QJ rfl rfl rfl rfl rfl (by with_reducible first | exact lInt | exact Qa | exact Q5 | exact lRess) rfl ?_; refine Qk igtr rfl rfl rfl rfl ?_; refine Qx rfl rfl rfl ?_)
        refine Q6 26 (p := 0 < e) rfl (fun h3 => ?_) (fun h3 => ?_)
        · (refine QV rfl rfl rfl (by with_reducible first | exact fS0 | exact fS1 | exact fS2 | exact fS3 | exact fS4 | exact fS5 | exact fS6 | exact fS7 | exact fS8 | exact fS9 | exact fS10 | exact fS11 | exact fN0 | exact fN1 | exact fN2 | exact fN3 | exact fN4 | exact fN5) rfl ?_; refine QJ rfl rfl rfl rfl rfl (by with_reducible first | exact lInt | exact Qa | exact Q5 | exact lRess) rfl ?_; refine QV rfl rfl rfl (by with_reducible first | exact fV0 | exact fV1 | exact fV2) rfl ?_; refine QJ rfl rfl rfl rfl rfl (by with_reducible first | exact lInt | exact Qa | exact Q5 | exact lRess) rfl ?_; refine Qk igtr rfl rfl rfl rfl ?_; refine QZ rfl rfl rfl rfl ?_; refine QU rfl rfl rfl rfl ?_; refine Qj (hK _ _ ?_); clear hK K)
          exact Xq hN (decide (e < c.tt)) (by rw [decide_eq_true_iff]; constructor; exact fun h => .inr ⟨h3, h⟩; exact fun h => h.elim (fun h => by rw [hub] at h; cases h) (·.2)) (by exact QX rfl ⟨rfl, rfl, rfl, rfl, rfl, rfl, rfl, trivial⟩)
        · (refine Qy rfl rfl rfl ?_; refine Qy rfl rfl rfl ?_; refine Qy rfl rfl rfl ?_; refine Qy rfl rfl rfl ?_; refine Qy rfl rfl rfl ?_; refine QU rfl rfl rfl rfl ?_; refine QU rfl rfl rfl rfl ?_; refine Qj (hK _ _ ?_); clear hK K)
          exact Xq hN false (iff_of_false (by decide) (fun h => h.elim (fun h => by rw [hub] at h; cases h) (fun h => h3 h.1))) (by exact QX rfl ⟨rfl, rfl, rfl, rfl, rfl, rfl, rfl, trivial⟩)
    cases b with
    | true =>
      have es : lookS e m c = m := by rw [es, if_pos (hb.1 rfl)]
      (refine Qo rfl (Qp (Fin.thenExit (Fin.blockE ?_))))
      exact Xq hM _ es (Qe 2 (by exact QX rfl ⟨rfl, rfl, rfl, rfl, rfl, trivial⟩))
    | false =>
      rw [if_neg (fun h => by have := hb.2 h; cases this)] at es
      (refine Xv rfl (Q1 (Qz (Qw (Qq fun K hK => ?_)))); refine QV rfl rfl rfl (by with_reducible first | exact fS0 | exact fS1 | exact fS2 | exact fS3 | exact fS4 | exact fS5 | exact fS6 | exact fS7 | exact fS8 | exact fS9 | exact fS10 | exact fS11 | exact fN0 | exact fN1 | exact fN2 | exact fN3 | exact fN4 | exact fN5) rfl ?_; refine QJ rfl rfl rfl rfl rfl (by with_reducible first | exact lInt | exact Qa | exact Q5 | exact lRess) rfl ?_; refine QV rfl rfl rfl (by with_reducible first | exact fS0 | exact fS1 | exact fS2 | exact fS3 | exact fS4 | exact fS5 | exact fS6 | exact fS7 | exact fS8 | exact fS9 | exact fS10 | exact fS11 | exact fN0 | exact fN1 | exact fN2 | exact fN3 | exact fN4 | exact fN5) rfl ?_; refine QJ rfl rfl rfl rfl rfl (by with_reducible first | exact lInt | exact Qa | exact Q5 | exact lRess) rfl ?_)
      refine Qs rfl (by with_reducible exact bSpot) rfl (.one rfl rfl rfl rfl (.one rfl rfl rfl rfl .nil)) rfl ?_
      refine Qg 3 rfl rfl (by with_reducible exact zvSpot) rfl rfl rfl ?_
      (refine Qc 2 rfl rfl rfl rfl rfl (by with_reducible exact szSpot) rfl rfl ?_; refine Qj (hK _ _ (Qz (Qw ?_))); clear hK K; refine Qq (fun K hK => ?_); refine QV rfl rfl rfl (by with_reducible first | exact fV0 | exact fV1 | exact fV2) rfl ?_; refine QJ rfl rfl rfl rfl rfl (by with_reducible first | exact lMSt | exact lMAd) rfl ?_; refine Q7 (n := 2) rfl rfl rfl rfl rfl (by with_reducible exact YW) rfl ?_)
      refine Ops.lookM (i := 9) (cv := intC) (enc := spE) 0 (c.fl, c.tt) rfl rfl rfl rfl (KeyIs.agg (us := [.int .i64 c.fl, .int .i64 c.tt]) rfl) uMSt z0Int (fun _ _ => rfl) X8 rfl ?_
      generalize (look1 m.2 (c.fl, c.tt)).getD 0 = kn at es ⊢
      (refine Qv rfl rfl rfl ?_; refine Qj (hK _ _ (Qz (Q4 (Qw ?_)))); clear hK K; refine Qq (fun K hK => ?_); refine QV rfl rfl rfl (by with_reducible first | exact fS0 | exact fS1 | exact fS2 | exact fS3 | exact fS4 | exact fS5 | exact fS6 | exact fS7 | exact fS8 | exact fS9 | exact fS10 | exact fS11 | exact fN0 | exact fN1 | exact fN2 | exact fN3 | exact fN4 | exact fN5) rfl ?_; refine QJ rfl rfl rfl rfl rfl (by with_reducible first | exact lInt | exact Qa | exact Q5 | exact lRess) rfl ?_; refine Qm rfl rfl rfl ?_; refine Qv rfl rfl rfl ?_; refine Qj (hK _ _ (Qz ?_)); clear hK K)
      refine Xy rfl (fun h1 => ?_) (fun h1 => ?_)
      · have h1' : c.an = false := by simpa using h1
        rw [if_pos h1'] at es
        (refine Qq (fun K hK => ?_); refine QV rfl rfl rfl (by with_reducible first | exact fV0 | exact fV1 | exact fV2) rfl ?_; refine QJ rfl rfl rfl rfl rfl (by with_reducible first | exact lMSt | exact lMAd) rfl ?_; refine Q7 (n := 2) rfl rfl rfl rfl rfl (by with_reducible exact YW) rfl ?_; refine Qx rfl rfl rfl ?_; refine Ops.max2 rfl rfl rfl rfl ?_)
        refine Xx (i := 9) (enc := spE) (cv := intC) (c.fl, c.tt) (max kn 1) rfl rfl rfl (KeyIs.agg (us := [.int .i64 c.fl, .int .i64 c.tt]) rfl) rfl uMSt X8 ?_
        (refine Qj (hK _ _ (Qb (Qb ?_))); clear hK K)
        exact Xq hM _ es (Qe 3 (Qe 2 (by exact QX rfl ⟨rfl, rfl, rfl, rfl, rfl, trivial⟩)))
      · have h1' : c.an = true := by simpa using h1
        rw [if_neg (fun h => by rw [h1'] at h; cases h)] at es
        (refine Qw (Qq fun K hK => ?_); refine Qx rfl rfl rfl ?_; refine Qk ileq rfl rfl rfl rfl ?_; refine Qv rfl rfl rfl ?_; refine Qj (hK _ _ (Qz ?_)); clear hK K)
        refine Q2 rfl (fun h2 => ?_) (fun h2 => ?_)
        · rw [if_pos h2] at es
          refine St.drawQ (by with_reducible exact mixed) [9, 10] (.p 0 (.p 3 (.p 6 (.p 7 (.f 1 (.f 2 (.m 4 (.m 5 (.m 8 (.a 9 (.a 10 .done .non) .non) (.a 9 (.f 8 (.a 10 .done .non)) .non)) (.m 8 (.m 5 (.a 9 (.a 10 .done .non) .non) (.a 9 (.f 5 (.a 10 .done .non)) .non)) (.a 9 (.f 5 (.f 8 (.a 10 .done .non))) .non))) (.m 5 (.m 4 (.m 8 (.a 9 (.a 10 .done .non) .non) (.a 9 (.f 8 (.a 10 .done .non)) .non)) (.m 8 (.m 4 (.a 9 (.a 10 .done .non) .non) (.a 9 (.f 4 (.a 10 .done .non)) .non)) (.a 9 (.f 4 (.f 8 (.a 10 .done .non))) .non))) (.m 8 (.m 4 (.m 5 (.a 9 (.a 10 .done .non) .non) (.a 9 (.f 5 (.a 10 .done .non)) .non)) (.m 5 (.m 4 (.a 9 (.a 10 .done .non) .non) (.a 9 (.f 4 (.a 10 .done .non)) .non)) (.a 9 (.f 4 (.f 5 (.a 10 .done .non))) .non))) (.a 9 (.f 4 (.f 5 (.f 8 (.a 10 .done .non)))) .non)))))))))) (by kernel_rfl) (fun K hK => ?_)
          refine YY ?_
          refine QV rfl rfl rfl (by with_reducible exact fV2) rfl ?_
          refine Qj ?_
          refine YY ?_
          refine QV rfl rfl rfl (by with_reducible exact fV1) rfl ?_
          refine Qj ?_
          refine YY ?_
          refine QV rfl rfl rfl (by with_reducible exact fS11) rfl ?_
          refine Qj ?_
          refine YY ?_
          refine X7 rfl rfl (by with_reducible exact fN0) rfl ?_
          refine Qj ?_
          refine Xr ?_
          refine QJ rfl rfl rfl rfl rfl (by with_reducible exact lMSt) rfl ?_
          refine Qj ?_
          refine Xr ?_
          refine Q7 (n := 2) rfl rfl rfl rfl rfl (by with_reducible exact YW) rfl ?_
          refine Qj ?_
          refine Xo ?_ ?_
          · refine QJ rfl rfl rfl rfl rfl (by with_reducible exact lMAd) rfl ?_
            refine Qj ?_
            refine Xo ?_ ?_
            · refine Q7 (n := 2) rfl rfl rfl rfl rfl (by with_reducible exact YW) rfl ?_
              refine Qj ?_
              refine Xo ?_ ?_
              · refine QJ rfl rfl rfl rfl rfl (by with_reducible exact Qa) rfl ?_
                refine Qj ?_
                refine XV ?_ Qr
                refine Xx (i := 9) (enc := spE) (cv := intC) (c.fl, c.tt) 2 rfl rfl rfl (KeyIs.agg (us := [.int .i64 c.fl, .int .i64 c.tt]) rfl) rfl uMSt X8 ?_
                refine Qj ?_
                refine XV ?_ Qr
                refine Xx (i := 8) (enc := spE) (cv := adrF) (c.fl, c.tt) c.fr rfl rfl rfl (KeyIs.agg (us := [.int .i64 c.fl, .int .i64 c.tt]) rfl) rfl uMAd X8 ?_
                refine Qj ?_
                refine XY (hK _ _ ?_)
                (refine Qb (Qb ?_))
                exact Xq hM _ es (Qe 3 (Qe 2 (by exact QX rfl ⟨rfl, rfl, rfl, rfl, rfl, trivial⟩)))
              refine XV ?_ Qr
              refine Xx (i := 9) (enc := spE) (cv := intC) (c.fl, c.tt) 2 rfl rfl rfl (KeyIs.agg (us := [.int .i64 c.fl, .int .i64 c.tt]) rfl) rfl uMSt X8 ?_
              refine Qj ?_
              refine Xr ?_
              refine QJ rfl rfl rfl rfl rfl (by with_reducible exact Qa) rfl ?_
              refine Qj ?_
              refine XV ?_ Qr
              refine Xx (i := 8) (enc := spE) (cv := adrF) (c.fl, c.tt) c.fr rfl rfl rfl (KeyIs.agg (us := [.int .i64 c.fl, .int .i64 c.tt]) rfl) rfl uMAd X8 ?_
              refine Qj ?_
              refine XY (hK _ _ ?_)
              (refine Qb (Qb ?_))
              exact Xq hM _ es (Qe 3 (Qe 2 (by exact QX rfl ⟨rfl, rfl, rfl, rfl, rfl, trivial⟩)))
            refine Xo ?_ ?_
            · refine QJ rfl rfl rfl rfl rfl (by with_reducible exact Qa) rfl ?_
              refine Qj ?_
              refine Xo ?_ ?_
              · refine Q7 (n := 2) rfl rfl rfl rfl rfl (by with_reducible exact YW) rfl ?_
                refine Qj ?_
                refine XV ?_ Qr
                refine Xx (i := 9) (enc := spE) (cv := intC) (c.fl, c.tt) 2 rfl rfl rfl (KeyIs.agg (us := [.int .i64 c.fl, .int .i64 c.tt]) rfl) rfl uMSt X8 ?_
                refine Qj ?_
                refine XV ?_ Qr
                refine Xx (i := 8) (enc := spE) (cv := adrF) (c.fl, c.tt) c.fr rfl rfl rfl (KeyIs.agg (us := [.int .i64 c.fl, .int .i64 c.tt]) rfl) rfl uMAd X8 ?_
                refine Qj ?_
                refine XY (hK _ _ ?_)
                (refine Qb (Qb ?_))
                exact Xq hM _ es (Qe 3 (Qe 2 (by exact QX rfl ⟨rfl, rfl, rfl, rfl, rfl, trivial⟩)))
              refine XV ?_ Qr
              refine Xx (i := 9) (enc := spE) (cv := intC) (c.fl, c.tt) 2 rfl rfl rfl (KeyIs.agg (us := [.int .i64 c.fl, .int .i64 c.tt]) rfl) rfl uMSt X8 ?_
              refine Qj ?_
              refine Xr ?_
              refine Q7 (n := 2) rfl rfl rfl rfl rfl (by with_reducible exact YW) rfl ?_
              refine Qj ?_
              refine XV ?_ Qr
              refine Xx (i := 8) (enc := spE) (cv := adrF) (c.fl, c.tt) c.fr rfl rfl rfl (KeyIs.agg (us := [.int .i64 c.fl, .int .i64 c.tt]) rfl) rfl uMAd X8 ?_
              refine Qj ?_
              refine XY (hK _ _ ?_)
              (refine Qb (Qb ?_))
              exact Xq hM _ es (Qe 3 (Qe 2 (by exact QX rfl ⟨rfl, rfl, rfl, rfl, rfl, trivial⟩)))
            refine XV ?_ Qr
            refine Xx (i := 9) (enc := spE) (cv := intC) (c.fl, c.tt) 2 rfl rfl rfl (KeyIs.agg (us := [.int .i64 c.fl, .int .i64 c.tt]) rfl) rfl uMSt X8 ?_
            refine Qj ?_
            refine Xr ?_
            refine Q7 (n := 2) rfl rfl rfl rfl rfl (by with_reducible exact YW) rfl ?_
            refine Qj ?_
            refine Xr ?_
            refine QJ rfl rfl rfl rfl rfl (by with_reducible exact Qa) rfl ?_
            refine Qj ?_
            refine XV ?_ Qr
            refine Xx (i := 8) (enc := spE) (cv := adrF) (c.fl, c.tt) c.fr rfl rfl rfl (KeyIs.agg (us := [.int .i64 c.fl, .int .i64 c.tt]) rfl) rfl uMAd X8 ?_
            refine Qj ?_
            refine XY (hK _ _ ?_)
            (refine Qb (Qb ?_))
            exact Xq hM _ es (Qe 3 (Qe 2 (by exact QX rfl ⟨rfl, rfl, rfl, rfl, rfl, trivial⟩)))
          refine Xo ?_ ?_
          · refine Q7 (n := 2) rfl rfl rfl rfl rfl (by with_reducible exact YW) rfl ?_
            refine Qj ?_
            refine Xo ?_ ?_
            · refine QJ rfl rfl rfl rfl rfl (by with_reducible exact lMAd) rfl ?_
              refine Qj ?_
              refine Xo ?_ ?_
              · refine QJ rfl rfl rfl rfl rfl (by with_reducible exact Qa) rfl ?_
                refine Qj ?_
                refine XV ?_ Qr
                refine Xx (i := 9) (enc := spE) (cv := intC) (c.fl, c.tt) 2 rfl rfl rfl (KeyIs.agg (us := [.int .i64 c.fl, .int .i64 c.tt]) rfl) rfl uMSt X8 ?_
                refine Qj ?_
                refine XV ?_ Qr
                refine Xx (i := 8) (enc := spE) (cv := adrF) (c.fl, c.tt) c.fr rfl rfl rfl (KeyIs.agg (us := [.int .i64 c.fl, .int .i64 c.tt]) rfl) rfl uMAd X8 ?_
                refine Qj ?_
                refine XY (hK _ _ ?_)
                (refine Qb (Qb ?_))
                exact Xq hM _ es (Qe 3 (Qe 2 (by exact QX rfl ⟨rfl, rfl, rfl, rfl, rfl, trivial⟩)))
              refine XV ?_ Qr
              refine Xx (i := 9) (enc := spE) (cv := intC) (c.fl, c.tt) 2 rfl rfl rfl (KeyIs.agg (us := [.int .i64 c.fl, .int .i64 c.tt]) rfl) rfl uMSt X8 ?_
              refine Qj ?_
              refine Xr ?_
              refine QJ rfl rfl rfl rfl rfl (by with_reducible exact Qa) rfl ?_
              refine Qj ?_
              refine XV ?_ Qr
              refine Xx (i := 8) (enc := spE) (cv := adrF) (c.fl, c.tt) c.fr rfl rfl rfl (KeyIs.agg (us := [.int .i64 c.fl, .int .i64 c.tt]) rfl) rfl uMAd X8 ?_
              refine Qj ?_
              refine XY (hK _ _ ?_)
              (refine Qb (Qb ?_))
              exact Xq hM _ es (Qe 3 (Qe 2 (by exact QX rfl ⟨rfl, rfl, rfl, rfl, rfl, trivial⟩)))
            refine Xo ?_ ?_
            · refine QJ rfl rfl rfl rfl rfl (by with_reducible exact Qa) rfl ?_
              refine Qj ?_
              refine Xo ?_ ?_
              · refine QJ rfl rfl rfl rfl rfl (by with_reducible exact lMAd) rfl ?_
                refine Qj ?_
                refine XV ?_ Qr
                refine Xx (i := 9) (enc := spE) (cv := intC) (c.fl, c.tt) 2 rfl rfl rfl (KeyIs.agg (us := [.int .i64 c.fl, .int .i64 c.tt]) rfl) rfl uMSt X8 ?_
                refine Qj ?_
                refine XV ?_ Qr
                refine Xx (i := 8) (enc := spE) (cv := adrF) (c.fl, c.tt) c.fr rfl rfl rfl (KeyIs.agg (us := [.int .i64 c.fl, .int .i64 c.tt]) rfl) rfl uMAd X8 ?_
                refine Qj ?_
                refine XY (hK _ _ ?_)
                (refine Qb (Qb ?_))
                exact Xq hM _ es (Qe 3 (Qe 2 (by exact QX rfl ⟨rfl, rfl, rfl, rfl, rfl, trivial⟩)))
              refine XV ?_ Qr
              refine Xx (i := 9) (enc := spE) (cv := intC) (c.fl, c.tt) 2 rfl rfl rfl (KeyIs.agg (us := [.int .i64 c.fl, .int .i64 c.tt]) rfl) rfl uMSt X8 ?_
              refine Qj ?_
              refine Xr ?_
              refine QJ rfl rfl rfl rfl rfl (by with_reducible exact lMAd) rfl ?_
              refine Qj ?_
              refine XV ?_ Qr
              refine Xx (i := 8) (enc := spE) (cv := adrF) (c.fl, c.tt) c.fr rfl rfl rfl (KeyIs.agg (us := [.int .i64 c.fl, .int .i64 c.tt]) rfl) rfl uMAd X8 ?_
              refine Qj ?_
              refine XY (hK _ _ ?_)
              (refine Qb (Qb ?_))
              exact Xq hM _ es (Qe 3 (Qe 2 (by exact QX rfl ⟨rfl, rfl, rfl, rfl, rfl, trivial⟩)))
            refine XV ?_ Qr
            refine Xx (i := 9) (enc := spE) (cv := intC) (c.fl, c.tt) 2 rfl rfl rfl (KeyIs.agg (us := [.int .i64 c.fl, .int .i64 c.tt]) rfl) rfl uMSt X8 ?_
            refine Qj ?_
            refine Xr ?_
            refine QJ rfl rfl rfl rfl rfl (by with_reducible exact lMAd) rfl ?_
            refine Qj ?_
            refine Xr ?_
            refine QJ rfl rfl rfl rfl rfl (by with_reducible exact Qa) rfl ?_
            refine Qj ?_
            refine XV ?_ Qr
            refine Xx (i := 8) (enc := spE) (cv := adrF) (c.fl, c.tt) c.fr rfl rfl rfl (KeyIs.agg (us := [.int .i64 c.fl, .int .i64 c.tt]) rfl) rfl uMAd X8 ?_
            refine Qj ?_
            refine XY (hK _ _ ?_)
            (refine Qb (Qb ?_))
            exact Xq hM _ es (Qe 3 (Qe 2 (by exact QX rfl ⟨rfl, rfl, rfl, rfl, rfl, trivial⟩)))
          refine Xo ?_ ?_
          · refine QJ rfl rfl rfl rfl rfl (by with_reducible exact Qa) rfl ?_
            refine Qj ?_
            refine Xo ?_ ?_
            · refine QJ rfl rfl rfl rfl rfl (by with_reducible exact lMAd) rfl ?_
              refine Qj ?_
              refine Xo ?_ ?_
              · refine Q7 (n := 2) rfl rfl rfl rfl rfl (by with_reducible exact YW) rfl ?_
                refine Qj ?_
                refine XV ?_ Qr
                refine Xx (i := 9) (enc := spE) (cv := intC) (c.fl, c.tt) 2 rfl rfl rfl (KeyIs.agg (us := [.int .i64 c.fl, .int .i64 c.tt]) rfl) rfl uMSt X8 ?_
                refine Qj ?_
                refine XV ?_ Qr
                refine Xx (i := 8) (enc := spE) (cv := adrF) (c.fl, c.tt) c.fr rfl rfl rfl (KeyIs.agg (us := [.int .i64 c.fl, .int .i64 c.tt]) rfl) rfl uMAd X8 ?_
                refine Qj ?_
                refine XY (hK _ _ ?_)
                (refine Qb (Qb ?_))
                exact Xq hM _ es (Qe 3 (Qe 2 (by exact QX rfl ⟨rfl, rfl, rfl, rfl, rfl, trivial⟩)))
              refine XV ?_ Qr
              refine Xx (i := 9) (enc := spE) (cv := intC) (c.fl, c.tt) 2 rfl rfl rfl (KeyIs.agg (us := [.int .i64 c.fl, .int .i64 c.tt]) rfl) rfl uMSt X8 ?_
              refine Qj ?_
              refine Xr ?_
              refine Q7 (n := 2) rfl rfl rfl rfl rfl (by with_reducible exact YW) rfl ?_
              refine Qj ?_
              refine XV ?_ Qr
              refine Xx (i := 8) (enc := spE) (cv := adrF) (c.fl, c.tt) c.fr rfl rfl rfl (KeyIs.agg (us := [.int .i64 c.fl, .int .i64 c.tt]) rfl) rfl uMAd X8 ?_
              refine Qj ?_
              refine XY (hK _ _ ?_)
              (refine Qb (Qb ?_))
              exact Xq hM _ es (Qe 3 (Qe 2 (by exact QX rfl ⟨rfl, rfl, rfl, rfl, rfl, trivial⟩)))
            refine Xo ?_ ?_
            · refine Q7 (n := 2) rfl rfl rfl rfl rfl (by with_reducible exact YW) rfl ?_
              refine Qj ?_
              refine Xo ?_ ?_
              · refine QJ rfl rfl rfl rfl rfl (by with_reducible exact lMAd) rfl ?_
                refine Qj ?_
                refine XV ?_ Qr
                refine Xx (i := 9) (enc := spE) (cv := intC) (c.fl, c.tt) 2 rfl rfl rfl (KeyIs.agg (us := [.int .i64 c.fl, .int .i64 c.tt]) rfl) rfl uMSt X8 ?_
                refine Qj ?_
                refine XV ?_ Qr
                refine Xx (i := 8) (enc := spE) (cv := adrF) (c.fl, c.tt) c.fr rfl rfl rfl (KeyIs.agg (us := [.int .i64 c.fl, .int .i64 c.tt]) rfl) rfl uMAd X8 ?_
                refine Qj ?_
                refine XY (hK _ _ ?_)
                (refine Qb (Qb ?_))
                exact Xq hM _ es (Qe 3 (Qe 2 (by exact QX rfl ⟨rfl, rfl, rfl, rfl, rfl, trivial⟩)))
              refine XV ?_ Qr
              refine Xx (i := 9) (enc := spE) (cv := intC) (c.fl, c.tt) 2 rfl rfl rfl (KeyIs.agg (us := [.int .i64 c.fl, .int .i64 c.tt]) rfl) rfl uMSt X8 ?_
              refine Qj ?_
              refine Xr ?_
              refine QJ rfl rfl rfl rfl rfl (by with_reducible exact lMAd) rfl ?_
              refine Qj ?_
              refine XV ?_ Qr
              refine Xx (i := 8) (enc := spE) (cv := adrF) (c.fl, c.tt) c.fr rfl rfl rfl (KeyIs.agg (us := [.int .i64 c.fl, .int .i64 c.tt]) rfl) rfl uMAd X8 ?_
              refine Qj ?_
              refine XY (hK _ _ ?_)
              (refine Qb (Qb ?_))
              exact Xq hM _ es (Qe 3 (Qe 2 (by exact QX rfl ⟨rfl, rfl, rfl, rfl, rfl, trivial⟩)))
            refine XV ?_ Qr
            refine Xx (i := 9) (enc := spE) (cv := intC) (c.fl, c.tt) 2 rfl rfl rfl (KeyIs.agg (us := [.int .i64 c.fl, .int .i64 c.tt]) rfl) rfl uMSt X8 ?_
            refine Qj ?_
            refine Xr ?_
            refine QJ rfl rfl rfl rfl rfl (by with_reducible exact lMAd) rfl ?_
            refine Qj ?_
            refine Xr ?_
            refine Q7 (n := 2) rfl rfl rfl rfl rfl (by with_reducible exact YW) rfl ?_
            refine Qj ?_
            refine XV ?_ Qr
            refine Xx (i := 8) (enc := spE) (cv := adrF) (c.fl, c.tt) c.fr rfl rfl rfl (KeyIs.agg (us := [.int .i64 c.fl, .int .i64 c.tt]) rfl) rfl uMAd X8 ?_
            refine Qj ?_
            refine XY (hK _ _ ?_)
            (refine Qb (Qb ?_))
            exact Xq hM _ es (Qe 3 (Qe 2 (by exact QX rfl ⟨rfl, rfl, rfl, rfl, rfl, trivial⟩)))
          refine XV ?_ Qr
          refine Xx (i := 9) (enc := spE) (cv := intC) (c.fl, c.tt) 2 rfl rfl rfl (KeyIs.agg (us := [.int .i64 c.fl, .int .i64 c.tt]) rfl) rfl uMSt X8 ?_
          refine Qj ?_
          refine Xr ?_
          refine QJ rfl rfl rfl rfl rfl (by with_reducible exact lMAd) rfl ?_
          refine Qj ?_
          refine Xr ?_
          refine Q7 (n := 2) rfl rfl rfl rfl rfl (by with_reducible exact YW) rfl ?_
          refine Qj ?_
          refine Xr ?_
          refine QJ rfl rfl rfl rfl rfl (by with_reducible exact Qa) rfl ?_
          refine Qj ?_
          refine XV ?_ Qr
          refine Xx (i := 8) (enc := spE) (cv := adrF) (c.fl, c.tt) c.fr rfl rfl rfl (KeyIs.agg (us := [.int .i64 c.fl, .int .i64 c.tt]) rfl) rfl uMAd X8 ?_
          refine Qj ?_
          refine XY (hK _ _ ?_)
          (refine Qb (Qb ?_))
          exact Xq hM _ es (Qe 3 (Qe 2 (by exact QX rfl ⟨rfl, rfl, rfl, rfl, rfl, trivial⟩)))
        · rw [if_neg h2] at es
          refine Qw ?_
          refine Xu (by with_reducible exact mixed) 13 (.p 0 (.p 1 (.p 2 (.p 3 (.p 7 (.p 8 (.f 4 (.f 5 (.f 6 (.f 9 (.p 10 (.p 11 (.p 12 .done))))))))))))) (by kernel_rfl) (fun K hK => ?_)
          (refine Qx rfl rfl rfl ?_; refine Qk ieql rfl rfl rfl rfl ?_; refine Qx rfl rfl rfl ?_)
          refine Q6 67 (p := kn = 2) rfl (fun h3 => ?_) (fun h3 => ?_)
          · (refine QV rfl rfl rfl (by with_reducible first | exact fV0 | exact fV1 | exact fV2) rfl ?_; refine QV rfl rfl rfl (by with_reducible first | exact fS0 | exact fS1 | exact fS2 | exact fS3 | exact fS4 | exact fS5 | exact fS6 | exact fS7 | exact fS8 | exact fS9 | exact fS10 | exact fS11 | exact fN0 | exact fN1 | exact fN2 | exact fN3 | exact fN4 | exact fN5) rfl ?_; refine X7 rfl rfl (by with_reducible first | exact fN0 | exact fN1 | exact fN2 | exact fN3 | exact fN4 | exact fN5) rfl ?_; refine QJ rfl rfl rfl rfl rfl (by with_reducible first | exact lMSt | exact lMAd) rfl ?_; refine Q7 (n := 2) rfl rfl rfl rfl rfl (by with_reducible exact YW) rfl ?_)
            refine Ops.lookM (i := 8) (cv := adrF) (enc := spE) 0 (c.fl, c.tt) rfl rfl rfl rfl (KeyIs.agg (us := [.int .i64 c.fl, .int .i64 c.tt]) rfl) uMAd z0Adr (fun _ _ => rfl) X8 rfl ?_
            generalize (look1 m.1 (c.fl, c.tt)).getD 0 = a at es ⊢
            (refine QJ rfl rfl rfl rfl rfl (by with_reducible first | exact lInt | exact Qa | exact Q5 | exact lRess) rfl ?_; refine Qk ineq rfl rfl rfl rfl ?_; refine QZ rfl rfl rfl rfl ?_; refine Qv rfl rfl rfl ?_; refine Qj (hK _ _ (Qz ?_)); clear hK K)
            refine Q2 rfl (fun h4 => ?_) (fun h4 => ?_)
            · rw [if_pos ⟨h3, fun h => h4 (by rw [h])⟩] at es
              refine St.drawQ (by with_reducible exact mixed) [6, 7] (.p 0 (.p 3 (.f 1 (.f 2 (.m 4 (.m 5 (.a 6 (.a 7 .done .non) .non) (.a 6 (.f 5 (.a 7 .done .non)) .non)) (.m 5 (.m 4 (.a 6 (.a 7 .done .non) .non) (.a 6 (.f 4 (.a 7 .done .non)) .non)) (.a 6 (.f 4 (.f 5 (.a 7 .done .non))) .non))))))) (by kernel_rfl) (fun K hK => ?_)
              refine YY ?_
              refine QV rfl rfl rfl (by with_reducible exact fV2) rfl ?_
              refine Qj ?_
              refine YY ?_
              refine QV rfl rfl rfl (by with_reducible exact fV1) rfl ?_
              refine Qj ?_
              refine Xr ?_
              refine QJ rfl rfl rfl rfl rfl (by with_reducible exact lMSt) rfl ?_
              refine Qj ?_
              refine Xr ?_
              refine Q7 (n := 2) rfl rfl rfl rfl rfl (by with_reducible exact YW) rfl ?_
              refine Qj ?_
              refine Xo ?_ ?_
              · refine QJ rfl rfl rfl rfl rfl (by with_reducible exact lMAd) rfl ?_
                refine Qj ?_
                refine Xo ?_ ?_
                · refine Q7 (n := 2) rfl rfl rfl rfl rfl (by with_reducible exact YW) rfl ?_
                  refine Qj ?_
                  refine XV ?_ Qr
                  refine Xx (i := 9) (enc := spE) (cv := intC) (c.fl, c.tt) 3 rfl rfl rfl (KeyIs.agg (us := [.int .i64 c.fl, .int .i64 c.tt]) rfl) rfl uMSt X8 ?_
                  refine Qj ?_
                  refine XV ?_ Qr
                  refine Xx (i := 8) (enc := spE) (cv := adrF) (c.fl, c.tt) 0 rfl rfl rfl (KeyIs.agg (us := [.int .i64 c.fl, .int .i64 c.tt]) rfl) rfl uMAd X8 ?_
                  refine Qj ?_
                  refine XY (hK _ _ ?_)
                  (refine Qb (Qb ?_))
                  exact Xq hM _ es (Qe 3 (Qe 2 (by exact QX rfl ⟨rfl, rfl, rfl, rfl, rfl, trivial⟩)))
                refine XV ?_ Qr
                refine Xx (i := 9) (enc := spE) (cv := intC) (c.fl, c.tt) 3 rfl rfl rfl (KeyIs.agg (us := [.int .i64 c.fl, .int .i64 c.tt]) rfl) rfl uMSt X8 ?_
                refine Qj ?_
                refine Xr ?_
                refine Q7 (n := 2) rfl rfl rfl rfl rfl (by with_reducible exact YW) rfl ?_
                refine Qj ?_
                refine XV ?_ Qr
                refine Xx (i := 8) (enc := spE) (cv := adrF) (c.fl, c.tt) 0 rfl rfl rfl (KeyIs.agg (us := [.int .i64 c.fl, .int .i64 c.tt]) rfl) rfl uMAd X8 ?_
                refine Qj ?_
                refine XY (hK _ _ ?_)
                (refine Qb (Qb ?_))
                exact Xq hM _ es (Qe 3 (Qe 2 (by exact QX rfl ⟨rfl, rfl, rfl, rfl, rfl, trivial⟩)))
              refine Xo ?_ ?_
              · refine Q7 (n := 2) rfl rfl rfl rfl rfl (by with_reducible exact YW) rfl ?_
                refine Qj ?_
                refine Xo ?_ ?_
                · refine QJ rfl rfl rfl rfl rfl (by with_reducible exact lMAd) rfl ?_
                  refine Qj ?_
                  refine XV ?_ Qr
                  refine Xx (i := 9) (enc := spE) (cv := intC) (c.fl, c.tt) 3 rfl rfl rfl (KeyIs.agg (us := [.int .i64 c.fl, .int .i64 c.tt]) rfl) rfl uMSt X8 ?_
                  refine Qj ?_
                  refine XV ?_ Qr
                  refine Xx (i := 8) (enc := spE) (cv := adrF) (c.fl, c.tt) 0 rfl rfl rfl (KeyIs.agg (us := [.int .i64 c.fl, .int .i64 c.tt]) rfl) rfl uMAd X8 ?_
                  refine Qj ?_
                  refine XY (hK _ _ ?_)
                  (refine Qb (Qb ?_))
                  exact Xq hM _ es (Qe 3 (Qe 2 (by exact QX rfl ⟨rfl, rfl, rfl, rfl, rfl, trivial⟩)))
                refine XV ?_ Qr
                refine Xx (i := 9) (enc := spE) (cv := intC) (c.fl, c.tt) 3 rfl rfl rfl (KeyIs.agg (us := [.int .i64 c.fl, .int .i64 c.tt]) rfl) rfl uMSt X8 ?_
                refine Qj ?_
                refine Xr ?_
                refine QJ rfl rfl rfl rfl rfl (by with_reducible exact lMAd) rfl ?_
                refine Qj ?_
                refine XV ?_ Qr
                refine Xx (i := 8) (enc := spE) (cv := adrF) (c.fl, c.tt) 0 rfl rfl rfl (KeyIs.agg (us := [.int .i64 c.fl, .int .i64 c.tt]) rfl) rfl uMAd X8 ?_
                refine Qj ?_
                refine XY (hK _ _ ?_)
                (refine Qb (Qb ?_))
                exact Xq hM _ es (Qe 3 (Qe 2 (by exact QX rfl ⟨rfl, rfl, rfl, rfl, rfl, trivial⟩)))
              refine XV ?_ Qr
              refine Xx (i := 9) (enc := spE) (cv := intC) (c.fl, c.tt) 3 rfl rfl rfl (KeyIs.agg (us := [.int .i64 c.fl, .int .i64 c.tt]) rfl) rfl uMSt X8 ?_
              refine Qj ?_
              refine Xr ?_
              refine QJ rfl rfl rfl rfl rfl (by with_reducible exact lMAd) rfl ?_
              refine Qj ?_
              refine Xr ?_
              refine Q7 (n := 2) rfl rfl rfl rfl rfl (by with_reducible exact YW) rfl ?_
              refine Qj ?_
              refine XV ?_ Qr
              refine Xx (i := 8) (enc := spE) (cv := adrF) (c.fl, c.tt) 0 rfl rfl rfl (KeyIs.agg (us := [.int .i64 c.fl, .int .i64 c.tt]) rfl) rfl uMAd X8 ?_
              refine Qj ?_
              refine XY (hK _ _ ?_)
              (refine Qb (Qb ?_))
              exact Xq hM _ es (Qe 3 (Qe 2 (by exact QX rfl ⟨rfl, rfl, rfl, rfl, rfl, trivial⟩)))
            · rw [if_neg (fun h => h.2 (Fin.ext (by omega)))] at es
              (refine Q1 (Qb (Qb ?_)))
              exact Xq hM _ es (Qe 3 (Qe 2 (by exact QX rfl ⟨rfl, rfl, rfl, rfl, rfl, trivial⟩)))
          · rw [if_neg (fun h => h3 h.1)] at es
            (refine Qy rfl rfl rfl ?_; refine Qy rfl rfl rfl ?_; refine Qy rfl rfl rfl ?_; refine Qy rfl rfl rfl ?_; refine Qy rfl rfl rfl ?_; refine Qy rfl rfl rfl ?_; refine Qy rfl rfl rfl ?_; refine Qy rfl rfl rfl ?_; refine QU rfl rfl rfl rfl ?_; refine Qv rfl rfl rfl ?_; refine Qj (hK _ _ (Qz (Xv rfl (Q1 (Qb (Qb ?_)))))); clear hK K)
            exact Xq hM _ es (Qe 3 (Qe 2 (by exact QX rfl ⟨rfl, rfl, rfl, rfl, rfl, trivial⟩)))
  · have hi' : i = l.length := by omega
    have el : (l.take i).foldl (lookS e) ([], []) = l.foldl (lookS e) ([], []) := by rw [hi', List.take_length]
    rw [el]
    refine St.frzM 8 1 1 rfl rfl rfl (fun _ h => h.elim) ?_
    refine St.frzM 9 1 2 rfl rfl rfl (fun _ h => h.elim) ?_
    (refine Qp (Qz (Qw (Qq fun K hK => ?_))); refine Q7 (n := 3) rfl rfl rfl rfl rfl (by with_reducible exact lView) rfl ?_; refine Qc 3 rfl rfl rfl rfl rfl (by with_reducible exact szView) rfl rfl ?_; refine Qj (hK _ _ (Qz (Q0 ?_))); clear hK K)
    refine Fin.end [_] rfl (Qi (n := 3) rfl rfl (by with_reducible exact lView) rfl QQ) rfl rfl
end Go.Proofs.YtlkdkbdgnjcopaaGreat
namespace Go.Proofs.YtlkdkbdgnjcopaaGreat
open Go.Own Go.Limbs
abbrev ESp := Tk × Int × Int
def plS (r : Rs) : ESp := (trOf r, r.fl, r.tt)
def plB (r : Rs) : Bool := r.an && usR r
abbrev SeenM := List (ESp × Fin 4294967296)
def clashG : SeenM → List Rs → Nat
  | _, [] => 0
  | m, r :: l =>
    if plB r = false then clashG m l + 1
    else if (look1 m (plS r)).isSome = true ∧ (look1 m (plS r)).getD 0 ≠ r.fr then 0
    else clashG (ins m (plS r) r.fr) l + 1
def conB (a b : Rs) : Bool := (plB a && plB b) && (decide (plS a = plS b) && decide (a.fr ≠ b.fr))
def witG (o : List Rs) : Option Nat :=
  let k := clashG [] o
  if k < o.length then (o.take k).findIdx? (fun a => conB a (o.getD k rs0)) else none
theorem clashG_le : ∀ (l : List Rs) (m : SeenM), clashG m l ≤ l.length
  | [], _ => Nat.le_refl _
  | r :: l, m => by
    simp only [clashG, List.length_cons]
    split
    · have := clashG_le l m; omega
    · split
      · omega
      · have := clashG_le l (ins m (plS r) r.fr); omega
theorem usR_tt {r : Rs} (h : usR r = true) : 1 ≤ r.tt ∧ r.tt ≤ 255 := by
  simp only [usR, okR, Bool.and_eq_true, decide_eq_true_eq] at h
  have h1 := h.2.1
  unfold ckE at h1
  split at h1
  · cases h1
  · rename_i h2; unfold P1 at h2; omega
theorem hasS_tt {l : List Rs} {fl tt : Int} (h : hasS (lookG l).2 fl tt = true) : 1 ≤ tt ∧ tt ≤ 255 := by
  unfold hasS at h
  cases e : look1 (lookG l).2 (fl, tt) with
  | none => rw [e] at h; simp at h
  | some v =>
    obtain ⟨_, r, _, hu, hs⟩ := lookG_keys l _ _ e
    injection hs with h1 h2
    rw [h2]; exact usR_tt hu
theorem pathG_len (m : AdM × StM) (fl : Int) : ∀ (k : Nat) (tt : Int), (pathG m fl k tt).length ≤ k
  | 0, _ => Nat.le_refl _
  | k + 1, tt => by
    unfold pathG
    split
    · have := pathG_len m fl k (tt + 1); simp only [List.length_cons]; omega
    · exact Nat.zero_le _
attribute [local irreducible] Go.Own.Fin Ok OkB OkF OkL OkN OkT Ops St
theorem goPath : InGo Tryz.prog 93 := InGo.of Tryz.func93 rfl (by decide)
set_option maxHeartbeats 4000000 in
theorem Path_ok (l : List Rs) (fl : Int) (hl : l.length ≤ 100000) : OkF Tryz.prog 93 [rssC l, intC fl] 27 1 (adrs (pathF l fl)) := by
  have hL := Look_ok l hl
  have hb : ∀ tt, hasS (lookG l).2 fl tt = true → 1 ≤ tt ∧ tt ≤ 255 := fun tt h => hasS_tt h
  have e0 : pathF l fl = pathG (lookG l) fl 256 1 := rfl
  rw [e0]
  clear e0
  generalize endF l = e at hL
  generalize lookG l = m at hL hb ⊢
  refine OkF.enter Tryz.func93 rfl _ Tryz.ntmps93 rfl ?_
  intro S w
  (refine Qw (Qq fun K hK => ?_); refine Qv rfl rfl rfl ?_; refine Qj (hK _ _ (Qz (Qw ?_))); clear hK K; refine Qq (fun K hK => ?_); refine Qx rfl rfl rfl ?_)
  refine QW goLook hL rfl rfl rfl rfl ?_
  (refine Qg 0 rfl rfl (by with_reducible exact zvView) rfl rfl rfl ?_; refine Qc 3 rfl rfl rfl rfl rfl (by with_reducible exact szView) rfl rfl ?_; refine Qj (hK _ _ (Qz (Qw ?_))); clear hK K; refine Qq (fun K hK => ?_); refine Qv rfl rfl rfl ?_; refine Qj (hK _ _ (Qz (Qw (Qw ?_)))); clear hK K; refine Qq (fun K hK => ?_); refine Qv rfl rfl rfl ?_; refine Qj (hK _ _ (Qz (Q4 ?_))); clear hK K)
  refine Xe 6 1 27 1 rfl rfl rfl ?_
  refine Xj (α := List Ad) (fun pre => pre.length ≤ 255 ∧ pathG m fl 256 1 = pre ++ pathG m fl (256 - pre.length) (pre.length + 1))
    (fun pre => [(1, .ct (intC fl)), (5, .own 0), (6, .own 1), (7, .ct (intC (pre.length + 1)))])
    (fun pre => [(1, .row 27 1 (adrs pre)), (0, .box 184 [intC e, .fr (mapT (adM m.1)), .fr (mapT (stM m.2))])]) (fun pre => 256 - pre.length) [] ⟨Nat.zero_le _, rfl⟩ (by exact QX rfl ⟨rfl, rfl, rfl, rfl, trivial⟩) ?_
  intro pre ⟨hp, hq⟩
  try dsimp only
  have hH := Has_ok e fl (pre.length + 1) m
  have hb1 := hb (pre.length + 1)
  have hun : ∀ k, pathG m fl (k + 1) (pre.length + 1) = if hasS m.2 fl (pre.length + 1) then (look1 m.1 (fl, (pre.length : Int) + 1)).getD 0 :: pathG m fl k (pre.length + 1 + 1) else [] := fun _ => rfl
  generalize hasS m.2 fl (pre.length + 1) = hs at hH hb1 hun
  (refine Qw (Qw (Qq fun K hK => ?_)); refine Q7 (n := 3) rfl rfl rfl rfl rfl (by with_reducible exact lView) rfl ?_; refine Qx rfl rfl rfl ?_; refine Qx rfl rfl rfl ?_)
  refine QW goHas hH rfl rfl rfl rfl ?_
  (refine Qj (hK _ _ (Qz ?_)); clear hK K)
  refine Xy rfl (fun h => ?_) (fun h => ?_)
  · have hl2 := hb1 h
    obtain ⟨k, hk⟩ : ∃ k, 256 - pre.length = k + 1 := ⟨255 - pre.length, by omega⟩
    rw [hk, hun, if_pos h] at hq
    (refine Q1 (Qz (Qw (Q4 (Qq fun K hK => ?_)))); refine Qx rfl rfl rfl ?_; refine QV rfl rfl rfl (by with_reducible first | exact fV0 | exact fV1 | exact fV2) rfl ?_; refine QJ rfl rfl rfl rfl rfl (by with_reducible first | exact lMSt | exact lMAd) rfl ?_; refine Qx rfl rfl rfl ?_; refine Qx rfl rfl rfl ?_)
    refine Qs rfl (by with_reducible exact bSpot) rfl (.one rfl rfl rfl rfl (.one rfl rfl rfl rfl .nil)) rfl ?_
    refine Ops.lookF (cv := adrF) (enc := spE) 0 (fl, (pre.length : Int) + 1) rfl rfl rfl (KeyIs.agg (us := [.int .i64 fl, .int .i64 ((pre.length : Int) + 1)]) rfl) uMAd z0Adr (fun _ _ => rfl) X8 rfl ?_
    generalize (look1 m.1 (fl, (pre.length : Int) + 1)).getD 0 = a at hq ⊢
    skip
    refine Zq rfl rfl (by with_reducible exact sAdrs) rfl rfl rfl ?_
    refine Qt pre.length (adrs (pre ++ [a])) rfl rfl rfl rfl (by with_reducible exact sAdrs) (by simp [adrs]) rfl (by omega) (by omega) (by simp [adrs]) rfl ?_
    (refine Qv rfl rfl rfl ?_; refine Qj (hK _ _ (Qz ?_)); clear hK K; refine Qq (fun K hK => ?_); refine Qx rfl rfl rfl ?_; refine Qk (iadd (by omega) (by omega)) rfl rfl rfl rfl ?_; refine Qv rfl rfl rfl ?_; refine Qj (hK _ _ (Q3 ?_)); clear hK K)
    refine Q9 (pre ++ [a]) (by rw [List.length_append]; simp; omega) ⟨by rw [List.length_append]; simp; omega, ?_⟩ (by exact QX rfl ⟨rfl, rfl, rfl, by simp only [List.length_append, List.length_cons, List.length_nil, Int.natCast_add]; rfl, trivial⟩)
    rw [hq, List.length_append, List.append_assoc]
    have : 256 - (pre.length + [a].length) = k := by simp; omega
    rw [this]
    simp
  · obtain ⟨k, hk⟩ : ∃ k, 256 - pre.length = k + 1 := ⟨255 - pre.length, by omega⟩
    rw [hk, hun, if_neg (by rw [h]; decide), List.append_nil] at hq
    (refine Qp (Qz (Qw (Qq fun K hK => ?_))); refine Qx rfl rfl rfl ?_; refine Qv rfl rfl rfl ?_; refine Qj (hK _ _ (Qz (Q0 ?_))); clear hK K)
    refine Fin.retF rfl rfl (by rw [hq]; rfl) rfl
abbrev esI (s : ESp) : List Int := [s.1.va, (s.1.ds.val : Int), s.1.pr, s.2.1, s.2.2]
abbrev esK : List IntKind := [.i64, .u32, .i64] ++ [.i64, .i64]
abbrev esE (s : ESp) : Value := Go.Own.encI esK (esI s)
abbrev esCs (s : ESp) : List CT := [intC s.1.va, adrF s.1.ds, intC s.1.pr, intC s.2.1, intC s.2.2]
abbrev esC (s : ESp) : CT := .fr (aggT (esCs s))
abbrev esV (s : ESp) : List Value := [.int .i64 s.1.va, .int .u32 (s.1.ds.val : Int), .int .i64 s.1.pr, .int .i64 s.2.1, .int .i64 s.2.2]
theorem eqES : EqF Tryz.prog 223 86 [.i64, .u32, .i64] [.i64, .i64] := ⟨by kernel_rfl, by kernel_rfl, by kernel_rfl, by kernel_rfl, by kernel_rfl, by kernel_rfl, by kernel_rfl, by kernel_rfl⟩
theorem esI_inj (a b : ESp) (h : esI a = esI b) : a = b := by
  obtain ⟨⟨a1, a2, a3⟩, a4, a5⟩ := a
  obtain ⟨⟨b1, b2, b3⟩, b4, b5⟩ := b
  simp only [esI, List.cons.injEq, and_true, Int.ofNat_inj, Fin.val_inj] at h
  obtain ⟨h1, h2, h3, h4, h5⟩ := h
  rw [h1, h2, h3, h4, h5]
theorem keyES : KeyT Tryz.prog 223 esE := eqES.flat.key esI (fun _ => rfl) esI_inj
theorem gES : Tryz.prog.eqGuardType Tryz.prog.depth 223 = false := by kernel_rfl
theorem lES : LdN Tryz.prog 223 5 := LdN.of _ Tryz.underlying223 rfl (by kernel_rfl)
theorem szES : (Tryz.prog.info? 223).map (·.size) = some 5 := by kernel_rfl
theorem zvES : (Tryz.prog.info? 223).map (·.zero) = some (some (.agg #[.int .i64 0, .int .u32 0, .int .i64 0, .int .i64 0, .int .i64 0])) := by kernel_rfl
theorem bES : bInfo Tryz.prog 223 = some (.agg #[.int .i64 0, .int .u32 0, .int .i64 0, .int .i64 0, .int .i64 0], [(0, some 3), (3, some 1), (4, some 1)]) := by kernel_rfl
theorem uMSeen : Tryz.prog.underlying 221 = some (.map 223 27) := Tryz.underlying221
theorem goPlace : InGo Tryz.prog 180 := InGo.of Tryz.func180 rfl (by decide)
set_option maxHeartbeats 4000000 in
theorem Place_ok (r : Rs) : Ok Tryz.prog 180 [rsC r] (.fr (tupT [esC (plS r), boolC (plB r)])) := by
  have hT := Yu r
  have hU := Usable_ok r
  have e0 : plB r = (r.an && usR r) := rfl
  generalize usR r = ub at hU e0
  refine Ok.enter Tryz.func180 rfl _ Tryz.ntmps180 rfl ?_
  intro S w
  (refine Qw (Qq fun K hK => ?_); refine Xk 0 rfl rfl rfl rfl rfl rfl rfl ?_)
  refine Qg 1 rfl rfl (by with_reducible exact zvES) rfl rfl rfl ?_
  (refine Qv rfl rfl rfl ?_; refine Qj (hK _ _ (Qz (Qw ?_))); clear hK K)
  refine Xu (by with_reducible exact mixed) 13 (.p 2 (.p 4 (.p 7 (.f 0 (.f 3 (.f 5 (.fork 1 (.p 6 (.m 8 (.p 9 (.m 10 (.m 11 (.p 12 (.a 13 (.p 14 .done)))))))) 8 (.m 1 (.p 6 (.p 9 (.m 10 (.m 11 (.p 12 (.a 13 (.p 14 .done))))))))))))))) (by kernel_rfl) (fun K hK => ?_)
  (refine QV rfl rfl rfl (by with_reducible first | exact fS0 | exact fS1 | exact fS2 | exact fS3 | exact fS4 | exact fS5 | exact fS6 | exact fS7 | exact fS8 | exact fS9 | exact fS10 | exact fS11 | exact fN0 | exact fN1 | exact fN2 | exact fN3 | exact fN4 | exact fN5) rfl ?_; refine QV rfl rfl rfl (by with_reducible first | exact fS0 | exact fS1 | exact fS2 | exact fS3 | exact fS4 | exact fS5 | exact fS6 | exact fS7 | exact fS8 | exact fS9 | exact fS10 | exact fS11 | exact fN0 | exact fN1 | exact fN2 | exact fN3 | exact fN4 | exact fN5) rfl ?_; refine QV rfl rfl rfl (by with_reducible first | exact fS0 | exact fS1 | exact fS2 | exact fS3 | exact fS4 | exact fS5 | exact fS6 | exact fS7 | exact fS8 | exact fS9 | exact fS10 | exact fS11 | exact fN0 | exact fN1 | exact fN2 | exact fN3 | exact fN4 | exact fN5) rfl ?_; refine Q7 (n := 17) rfl rfl rfl rfl rfl (by with_reducible exact lRes) rfl ?_; refine QJ rfl rfl rfl rfl rfl (by with_reducible first | exact lInt | exact Qa | exact Q5 | exact lRess) rfl ?_; refine QJ rfl rfl rfl rfl rfl (by with_reducible first | exact lInt | exact Qa | exact Q5 | exact lRess) rfl ?_)
  refine Yv ?_ ?_
  · refine QW YX hT rfl rfl rfl rfl ?_
    refine Qs rfl (by with_reducible exact bES) rfl (.agg rfl rfl rfl rfl (.one rfl rfl rfl rfl (.one rfl rfl rfl rfl .nil))) rfl ?_
    (refine QJ rfl rfl rfl rfl rfl (by with_reducible first | exact lInt | exact Qa | exact Q5 | exact lRess) rfl ?_; refine Qx rfl rfl rfl ?_)
    refine X5 13 (b := r.an) rfl (fun h => ?_) (fun h => ?_)
    · (refine Q7 (n := 17) rfl rfl rfl rfl rfl (by with_reducible exact lRes) rfl ?_)
      refine QW goUsable hU rfl rfl rfl rfl ?_
      (refine QZ rfl rfl rfl rfl ?_)
      refine Qc 5 rfl rfl rfl rfl rfl (by with_reducible exact szES) rfl rfl ?_
      (refine Qv rfl rfl rfl ?_; refine Qj (hK _ _ (Qz (Q0 ?_))); clear hK K)
      refine QK [_, _] rfl (Qi (n := 5) rfl rfl (by with_reducible exact lES) rfl (Qu rfl QQ)) (by rw [e0, h, Bool.true_and]; rfl) rfl
    · (refine Qy rfl rfl rfl ?_; refine Qy rfl rfl rfl ?_; refine QU rfl rfl rfl rfl ?_)
      refine Qc 5 rfl rfl rfl rfl rfl (by with_reducible exact szES) rfl rfl ?_
      (refine Qv rfl rfl rfl ?_; refine Qj (hK _ _ (Qz (Q0 ?_))); clear hK K)
      refine QK [_, _] rfl (Qi (n := 5) rfl rfl (by with_reducible exact lES) rfl (Qu rfl QQ)) (by rw [e0, h, Bool.false_and]; rfl) rfl
  · (refine QJ rfl rfl rfl rfl rfl (by with_reducible first | exact lInt | exact Qa | exact Q5 | exact lRess) rfl ?_)
    refine QW YX hT rfl rfl rfl rfl ?_
    refine Qs rfl (by with_reducible exact bES) rfl (.agg rfl rfl rfl rfl (.one rfl rfl rfl rfl (.one rfl rfl rfl rfl .nil))) rfl ?_
    (refine Qx rfl rfl rfl ?_)
    refine X5 13 (b := r.an) rfl (fun h => ?_) (fun h => ?_)
    · (refine Q7 (n := 17) rfl rfl rfl rfl rfl (by with_reducible exact lRes) rfl ?_)
      refine QW goUsable hU rfl rfl rfl rfl ?_
      (refine QZ rfl rfl rfl rfl ?_)
      refine Qc 5 rfl rfl rfl rfl rfl (by with_reducible exact szES) rfl rfl ?_
      (refine Qv rfl rfl rfl ?_; refine Qj (hK _ _ (Qz (Q0 ?_))); clear hK K)
      refine QK [_, _] rfl (Qi (n := 5) rfl rfl (by with_reducible exact lES) rfl (Qu rfl QQ)) (by rw [e0, h, Bool.true_and]; rfl) rfl
    · (refine Qy rfl rfl rfl ?_; refine Qy rfl rfl rfl ?_; refine QU rfl rfl rfl rfl ?_)
      refine Qc 5 rfl rfl rfl rfl rfl (by with_reducible exact szES) rfl rfl ?_
      (refine Qv rfl rfl rfl ?_; refine Qj (hK _ _ (Qz (Q0 ?_))); clear hK K)
      refine QK [_, _] rfl (Qi (n := 5) rfl rfl (by with_reducible exact lES) rfl (Qu rfl QQ)) (by rw [e0, h, Bool.false_and]; rfl) rfl
theorem goContradict : InGo Tryz.prog 146 := InGo.of Tryz.func146 rfl (by decide)
set_option maxHeartbeats 4000000 in
theorem Contradict_ok (a b : Rs) : Ok Tryz.prog 146 [rsC a, rsC b] (boolC (conB a b)) := by
  have hA := Place_ok a
  have hB := Place_ok b
  have e0 : conB a b = ((plB a && plB b) && (decide (plS a = plS b) && decide (a.fr ≠ b.fr))) := rfl
  have e1 : decide (esI (plS a) = esI (plS b)) = decide (plS a = plS b) := decide_eq_decide.2 ⟨esI_inj _ _, fun h => by rw [h]⟩
  generalize plS a = sa at hA e0 e1
  generalize plS b = sb at hB e0 e1
  generalize plB a = pa at hA e0
  generalize plB b = pb at hB e0
  refine Ok.enter Tryz.func146 rfl _ Tryz.ntmps146 rfl ?_
  intro S w
  (refine Qw (Qq fun K hK => ?_); refine Xk 0 rfl rfl rfl rfl rfl rfl rfl ?_; refine Xk 1 rfl rfl rfl rfl rfl rfl rfl ?_; refine Qv rfl rfl rfl ?_; refine Qj (hK _ _ (Qz (Qw ?_))); clear hK K; refine Qq (fun K hK => ?_); refine Q7 (n := 17) rfl rfl rfl rfl rfl (by with_reducible exact lRes) rfl ?_)
  refine QW goPlace hA rfl rfl rfl rfl ?_
  (refine Qx rfl rfl rfl ?_; refine Qf rfl rfl rfl rfl ?_; refine Qf rfl rfl rfl rfl ?_)
  refine Qg 2 rfl rfl (by with_reducible exact zvES) rfl rfl rfl ?_
  refine Qc 5 rfl rfl rfl rfl rfl (by with_reducible exact szES) rfl rfl ?_
  (refine Qv rfl rfl rfl ?_; refine Qj (hK _ _ (Qz (Qw ?_))); clear hK K; refine Qq (fun K hK => ?_); refine Q7 (n := 17) rfl rfl rfl rfl rfl (by with_reducible exact lRes) rfl ?_)
  refine QW goPlace hB rfl rfl rfl rfl ?_
  (refine Qx rfl rfl rfl ?_; refine Qf rfl rfl rfl rfl ?_; refine Qf rfl rfl rfl rfl ?_)
  refine Qg 3 rfl rfl (by with_reducible exact zvES) rfl rfl rfl ?_
  refine Qc 5 rfl rfl rfl rfl rfl (by with_reducible exact szES) rfl rfl ?_
  (refine Qv rfl rfl rfl ?_; refine Qj (hK _ _ (Qz (Qw ?_))); clear hK K; refine Qq (fun K hK => ?_); refine Qx rfl rfl rfl ?_; refine Qx rfl rfl rfl ?_)
  refine X5 20 (b := pa) rfl (fun h => ?_) (fun h => ?_)
  · (refine Qx rfl rfl rfl ?_; refine QZ rfl rfl rfl rfl ?_; refine Qx rfl rfl rfl ?_)
    refine X5 23 (b := pb) rfl (fun h2 => ?_) (fun h2 => ?_)
    · skip
      refine Q7 (n := 5) rfl rfl rfl rfl rfl (by with_reducible exact lES) rfl ?_
      refine Q7 (n := 5) rfl rfl rfl rfl rfl (by with_reducible exact lES) rfl ?_
      refine Ops.eqK (ks := esK) (esI sa) (esI sb) rfl rfl rfl rfl rfl eqES.flat gES rfl ?_
      rw [e1]
      (refine QZ rfl rfl rfl rfl ?_; refine Qx rfl rfl rfl ?_)
      refine Q6 28 (p := sa = sb) rfl (fun h3 => ?_) (fun h3 => ?_)
      · (refine QV rfl rfl rfl (by with_reducible first | exact fS0 | exact fS1 | exact fS2 | exact fS3 | exact fS4 | exact fS5 | exact fS6 | exact fS7 | exact fS8 | exact fS9 | exact fS10 | exact fS11 | exact fN0 | exact fN1 | exact fN2 | exact fN3 | exact fN4 | exact fN5) rfl ?_; refine X7 rfl rfl (by with_reducible first | exact fN0 | exact fN1 | exact fN2 | exact fN3 | exact fN4 | exact fN5) rfl ?_; refine QJ rfl rfl rfl rfl rfl (by with_reducible first | exact lInt | exact Qa | exact Q5 | exact lRess) rfl ?_; refine QV rfl rfl rfl (by with_reducible first | exact fS0 | exact fS1 | exact fS2 | exact fS3 | exact fS4 | exact fS5 | exact fS6 | exact fS7 | exact fS8 | exact fS9 | exact fS10 | exact fS11 | exact fN0 | exact fN1 | exact fN2 | exact fN3 | exact fN4 | exact fN5) rfl ?_; refine X7 rfl rfl (by with_reducible first | exact fN0 | exact fN1 | exact fN2 | exact fN3 | exact fN4 | exact fN5) rfl ?_; refine QJ rfl rfl rfl rfl rfl (by with_reducible first | exact lInt | exact Qa | exact Q5 | exact lRess) rfl ?_; refine Qk ineq rfl rfl rfl rfl ?_; refine QZ rfl rfl rfl rfl ?_; refine Qv rfl rfl rfl ?_; refine Qj (hK _ _ (Qz (Q0 ?_))); clear hK K)
        refine QK [_] rfl (Qu rfl QQ) (by rw [e0, h, h2, decide_eq_true h3]; simp only [Bool.true_and]; rw [show (decide (a.fr ≠ b.fr)) = decide (¬((a.fr.val : Int) = b.fr.val)) from decide_eq_decide.2 ⟨fun h h' => h (Fin.ext (by omega)), fun h h' => h (by rw [h'])⟩]; rfl) rfl
      · (refine Qy rfl rfl rfl ?_; refine Qy rfl rfl rfl ?_; refine Qy rfl rfl rfl ?_; refine Qy rfl rfl rfl ?_; refine Qy rfl rfl rfl ?_; refine Qy rfl rfl rfl ?_; refine Qy rfl rfl rfl ?_; refine QU rfl rfl rfl rfl ?_; refine Qv rfl rfl rfl ?_; refine Qj (hK _ _ (Qz (Q0 ?_))); clear hK K)
        refine QK [_] rfl (Qu rfl QQ) (by rw [e0, h, h2, decide_eq_false h3]; rfl) rfl
    · (refine Qy rfl rfl rfl ?_; refine Qy rfl rfl rfl ?_; refine Qy rfl rfl rfl ?_; refine QU rfl rfl rfl rfl ?_; refine Qx rfl rfl rfl ?_; refine Qy rfl rfl rfl ?_; refine Qy rfl rfl rfl ?_; refine Qy rfl rfl rfl ?_; refine Qy rfl rfl rfl ?_; refine Qy rfl rfl rfl ?_; refine Qy rfl rfl rfl ?_; refine Qy rfl rfl rfl ?_; refine QU rfl rfl rfl rfl ?_; refine Qv rfl rfl rfl ?_; refine Qj (hK _ _ (Qz (Q0 ?_))); clear hK K)
      refine QK [_] rfl (Qu rfl QQ) (by rw [e0, h, h2]; rfl) rfl
  · (refine Qy rfl rfl rfl ?_; refine QU rfl rfl rfl rfl ?_; refine Qx rfl rfl rfl ?_; refine Qy rfl rfl rfl ?_; refine Qy rfl rfl rfl ?_; refine Qy rfl rfl rfl ?_; refine QU rfl rfl rfl rfl ?_; refine Qx rfl rfl rfl ?_; refine Qy rfl rfl rfl ?_; refine Qy rfl rfl rfl ?_; refine Qy rfl rfl rfl ?_; refine Qy rfl rfl rfl ?_; refine Qy rfl rfl rfl ?_; refine Qy rfl rfl rfl ?_; refine Qy rfl rfl rfl ?_; refine QU rfl rfl rfl rfl ?_; refine Qv rfl rfl rfl ?_; refine Qj (hK _ _ (Qz (Q0 ?_))); clear hK K)
    refine QK [_] rfl (Qu rfl QQ) (by rw [e0, h]; rfl) rfl
theorem goClash : InGo Tryz.prog 145 := InGo.of Tryz.func145 rfl (by decide)
theorem drop_getD {α : Type} {l : List α} {z : α} {i : Nat} (h : i < l.length) : l.drop i = l.getD i z :: l.drop (i + 1) := by
  rw [List.drop_eq_getElem_cons h, List.getD_eq_getElem?_getD, List.getElem?_eq_getElem h]; rfl
set_option maxHeartbeats 4000000 in
theorem Clash_ok (l : List Rs) (hl : l.length ≤ 100000) : Ok Tryz.prog 145 [rssC l] (intC (clashG [] l)) := by
  refine Ok.enter Tryz.func145 rfl _ Tryz.ntmps145 rfl ?_
  intro S w
  (refine Qw (Qq fun K hK => ?_); refine Qv rfl rfl rfl ?_; refine Qj (hK _ _ (Qz (Qw ?_))); clear hK K; refine Qq (fun K hK => ?_))
  refine Zp 8 rfl rfl rfl rfl rfl (fun v1 hv1 => ?_)
  (refine Qv rfl rfl rfl ?_; refine Qj (hK _ _ (Qz (Qw (Qw ?_)))); clear hK K; refine Qq (fun K hK => ?_); refine Qx rfl rfl rfl ?_; refine Qd rfl rfl (by with_reducible exact sRes.und) (List.length_map ..) rfl ?_; refine Qx rfl rfl rfl ?_; refine Qj (hK _ _ (Qz (Q4 ?_))); clear hK K)
  refine Xj (α := Nat × SeenM) (fun q => q.1 ≤ l.length ∧ clashG [] l = q.1 + clashG q.2 (l.drop q.1))
    (fun q => [(3, .ct (.ex v1)), (0, .ct (rssC l)), (11, .ct (rssC l)), (12, .ct (intC l.length)), (13, .ct (intC q.1))]) (fun q => [(8, .mpx v1 (kvs esE adrF q.2))]) (fun q => l.length - q.1) (0, []) ⟨Nat.zero_le _, (Nat.zero_add _).symm⟩ (by exact QX rfl ⟨rfl, rfl, rfl, rfl, rfl, trivial⟩) ?_
  rintro ⟨i, m⟩ ⟨hi, hq⟩
  try dsimp only at hi hq ⊢
  (refine Qw (Qq fun K hK => ?_); refine Qk ilss rfl rfl rfl rfl ?_; refine Qj (hK _ _ (Qz (Qw ?_))); clear hK K)
  refine Q2 rfl (fun h => ?_) (fun h => ?_)
  · have e2 : (i : Int).toNat = i := Int.toNat_natCast i
    rw [drop_getD (z := rs0) (show i < l.length by omega)] at hq
    (refine Q1 (Qz (Qw (Q4 (Qw (Qq fun K hK => ?_))))); refine Qx rfl rfl rfl ?_; refine Ql rfl rfl rfl (by with_reducible exact sRes) (by omega) (Z9 (by omega) (by omega)) rfl ?_; refine XW (n := 17) rfl rfl rfl (by with_reducible exact lRes) rfl rfl ?_; refine Qg 0 rfl rfl (by with_reducible exact zvRes) rfl rfl rfl ?_; refine Qv rfl rfl rfl ?_; refine Qc 17 rfl rfl rfl rfl rfl (by with_reducible exact szRes) rfl rfl ?_; refine Qj (hK _ _ (Qz (Qw ?_))); clear hK K; refine Qq (fun K hK => ?_); refine Q7 (n := 17) rfl rfl rfl rfl rfl (by with_reducible exact lRes) rfl ?_)
    rw [e2]
    generalize l.getD i rs0 = c at hq ⊢
    have hP := Place_ok c
    simp only [clashG] at hq
    generalize plS c = sc at hP hq
    generalize plB c = pc at hP hq
    skip
    refine QW goPlace hP rfl rfl rfl rfl ?_
    (refine Qx rfl rfl rfl ?_; refine Qf rfl rfl rfl rfl ?_; refine Qf rfl rfl rfl rfl ?_)
    refine Qg 3 rfl rfl (by with_reducible exact zvES) rfl rfl rfl ?_
    refine Qc 5 rfl rfl rfl rfl rfl (by with_reducible exact szES) rfl rfl ?_
    (refine Qv rfl rfl rfl ?_; refine Qj (hK _ _ (Qz (Qw (Qw ?_)))); clear hK K; refine Qq (fun K hK => ?_); refine Qx rfl rfl rfl ?_; refine Qm rfl rfl rfl ?_; refine Qj (hK _ _ (Qz ?_)); clear hK K)
    refine Xy rfl (fun h1 => ?_) (fun h1 => ?_)
    · have h1' : pc = false := by simpa using h1
      rw [if_pos h1'] at hq
      (refine Qp (Qz (Qq fun K hK => ?_)); refine Qk (iadd (by omega) (by omega)) rfl rfl rfl rfl ?_; refine Qx rfl rfl rfl ?_; refine Qj (hK _ _ (Q3 ?_)); clear hK K)
      refine Qn 3 ?_
      refine Qn 0 ?_
      refine Q9 (i + 1, m) (by dsimp only; omega) ⟨by dsimp only; omega, by dsimp only; omega⟩ (by exact QX rfl ⟨rfl, rfl, rfl, rfl, by simp only [Int.natCast_add]; rfl, trivial⟩)
    · have h1' : pc = true := by simpa using h1
      rw [if_neg (by rw [h1']; decide)] at hq
      (refine Q1 (Qz (Qw (Qw (Qq fun K hK => ?_)))); refine Qx rfl rfl rfl ?_)
      refine Q7 (n := 5) rfl rfl rfl rfl rfl (by with_reducible exact lES) rfl ?_
      refine Ops.lookM2 (i := 8) (cv := adrF) (enc := esE) 0 sc rfl rfl rfl rfl (KeyIs.agg (us := esV sc) rfl) uMSeen z0Adr (fun _ _ => rfl) keyES rfl ?_
      generalize (look1 m sc).isSome = b at hq ⊢
      generalize (look1 m sc).getD 0 = a at hq ⊢
      (refine Qx rfl rfl rfl ?_; refine Qf rfl rfl rfl rfl ?_; refine Qf rfl rfl rfl rfl ?_; refine Qv rfl rfl rfl ?_; refine Qv rfl rfl rfl ?_; refine Qj (hK _ _ (Qz (Qw ?_))); clear hK K; refine Qq (fun K hK => ?_); refine Qx rfl rfl rfl ?_; refine Qx rfl rfl rfl ?_)
      refine X5 32 (b := b) rfl (fun h2 => ?_) (fun h2 => ?_)
      · (refine Qx rfl rfl rfl ?_; refine QV rfl rfl rfl (by with_reducible first | exact fS0 | exact fS1 | exact fS2 | exact fS3 | exact fS4 | exact fS5 | exact fS6 | exact fS7 | exact fS8 | exact fS9 | exact fS10 | exact fS11 | exact fN0 | exact fN1 | exact fN2 | exact fN3 | exact fN4 | exact fN5) rfl ?_; refine X7 rfl rfl (by with_reducible first | exact fN0 | exact fN1 | exact fN2 | exact fN3 | exact fN4 | exact fN5) rfl ?_; refine QJ rfl rfl rfl rfl rfl (by with_reducible first | exact lInt | exact Qa | exact Q5 | exact lRess) rfl ?_; refine Qk ineq rfl rfl rfl rfl ?_; refine QZ rfl rfl rfl rfl ?_; refine Qj (hK _ _ (Qz ?_)); clear hK K)
        refine Q2 rfl (fun h3 => ?_) (fun h3 => ?_)
        · rw [if_pos ⟨h2, fun h => h3 (by rw [h])⟩] at hq
          (refine Qw (Qq fun K hK => ?_); refine Qx rfl rfl rfl ?_; refine Qv rfl rfl rfl ?_; refine Qj (hK _ _ (Qz (Q0 (QY (Q8 (QY (QY (Q8 (QY ?_))))))))); clear hK K)
          refine QK [_] rfl (Qu rfl QQ) (by rw [hq]; rfl) rfl
        · rw [if_neg (fun h => h.2 (Fin.ext (by omega)))] at hq
          (refine Q1 (Qz (Qq fun K hK => ?_)); refine Qx rfl rfl rfl ?_)
          refine Q7 (n := 5) rfl rfl rfl rfl rfl (by with_reducible exact lES) rfl ?_
          (refine QV rfl rfl rfl (by with_reducible first | exact fS0 | exact fS1 | exact fS2 | exact fS3 | exact fS4 | exact fS5 | exact fS6 | exact fS7 | exact fS8 | exact fS9 | exact fS10 | exact fS11 | exact fN0 | exact fN1 | exact fN2 | exact fN3 | exact fN4 | exact fN5) rfl ?_; refine X7 rfl rfl (by with_reducible first | exact fN0 | exact fN1 | exact fN2 | exact fN3 | exact fN4 | exact fN5) rfl ?_; refine QJ rfl rfl rfl rfl rfl (by with_reducible first | exact lInt | exact Qa | exact Q5 | exact lRess) rfl ?_)
          refine Xx (i := 8) (enc := esE) (cv := adrF) sc c.fr rfl rfl rfl (KeyIs.agg (us := esV sc) rfl) rfl uMSeen keyES ?_
          (refine Qj (hK _ _ (Qz ?_)); clear hK K; refine Qq (fun K hK => ?_); refine Qk (iadd (by omega) (by omega)) rfl rfl rfl rfl ?_; refine Qx rfl rfl rfl ?_; refine Qj (hK _ _ (Q3 ?_)); clear hK K)
          refine Qn 3 ?_
          refine Qn 0 ?_
          refine Q9 (i + 1, ins m sc c.fr) (by dsimp only; omega) ⟨by dsimp only; omega, by dsimp only; omega⟩ (by exact QX rfl ⟨rfl, rfl, rfl, rfl, by simp only [Int.natCast_add]; rfl, trivial⟩)
      · rw [if_neg (fun h => by rw [h2] at h; cases h.1)] at hq
        (refine Qy rfl rfl rfl ?_; refine Qy rfl rfl rfl ?_; refine Qy rfl rfl rfl ?_; refine Qy rfl rfl rfl ?_; refine Qy rfl rfl rfl ?_; refine QU rfl rfl rfl rfl ?_; refine Qj (hK _ _ (Qz (Xv rfl (Q1 (Qz ?_))))); clear hK K; refine Qq (fun K hK => ?_); refine Qx rfl rfl rfl ?_)
        refine Q7 (n := 5) rfl rfl rfl rfl rfl (by with_reducible exact lES) rfl ?_
        (refine QV rfl rfl rfl (by with_reducible first | exact fS0 | exact fS1 | exact fS2 | exact fS3 | exact fS4 | exact fS5 | exact fS6 | exact fS7 | exact fS8 | exact fS9 | exact fS10 | exact fS11 | exact fN0 | exact fN1 | exact fN2 | exact fN3 | exact fN4 | exact fN5) rfl ?_; refine X7 rfl rfl (by with_reducible first | exact fN0 | exact fN1 | exact fN2 | exact fN3 | exact fN4 | exact fN5) rfl ?_; refine QJ rfl rfl rfl rfl rfl (by with_reducible first | exact lInt | exact Qa | exact Q5 | exact lRess) rfl ?_)
        refine Xx (i := 8) (enc := esE) (cv := adrF) sc c.fr rfl rfl rfl (KeyIs.agg (us := esV sc) rfl) rfl uMSeen keyES ?_
        (refine Qj (hK _ _ (Qz ?_)); clear hK K; refine Qq (fun K hK => ?_); refine Qk (iadd (by omega) (by omega)) rfl rfl rfl rfl ?_; refine Qx rfl rfl rfl ?_; refine Qj (hK _ _ (Q3 ?_)); clear hK K)
        refine Qn 3 ?_
        refine Qn 0 ?_
        refine Q9 (i + 1, ins m sc c.fr) (by dsimp only; omega) ⟨by dsimp only; omega, by dsimp only; omega⟩ (by exact QX rfl ⟨rfl, rfl, rfl, rfl, by simp only [Int.natCast_add]; rfl, trivial⟩)
  · have hi' : i = l.length := by omega
    rw [hi', List.drop_length] at hq
    simp only [clashG, Nat.add_zero] at hq
    (refine Qp (Qz (Qw (Qq fun K hK => ?_))); refine Qx rfl rfl rfl ?_; refine Qd rfl rfl (by with_reducible exact sRes.und) (List.length_map ..) rfl ?_; refine Qv rfl rfl rfl ?_; refine Qj (hK _ _ (Qz (Q0 ?_))); clear hK K)
    refine QK [_] rfl (Qu rfl QQ) (by rw [hq]; rfl) rfl
theorem witG_loop {p : Rs → Bool} {z : Rs} : ∀ (l : List Rs) (i : Nat), (∀ j, j < i → j < l.length → p (l.getD j z) = false) → i ≤ l.length → l.findIdx? p = ((l.drop i).findIdx? p).map (· + i)
  | [], i, _, h => by
    have : i = 0 := by simpa using h
    subst this; rfl
  | a :: l, 0, _, _ => by simp
  | a :: l, i + 1, h, hi => by
    have h0 : p a = false := h 0 (Nat.succ_pos _) (Nat.succ_pos _)
    have ih := witG_loop l i (fun j h1 h2 => h (j + 1) (by omega) (by simpa using h2)) (by simpa using hi)
    rw [List.findIdx?_cons, h0, ih]
    simp only [List.drop_succ_cons, Bool.false_eq_true, if_false, Option.map_map, Function.comp_def]
    rfl
abbrev witC (o : List Rs) : List CT := match witG o with
  | some i => [ikC (idOf (o.getD i rs0)), ikC (idOf (o.getD (clashG [] o) rs0)), boolC true]
  | none => [ikC ⟨0, 0, 0⟩, ikC ⟨0, 0, 0⟩, boolC false]
theorem goWitness : InGo Tryz.prog 115 := InGo.of Tryz.func115 rfl (by decide)
theorem take_getD {l : List Rs} {z : Rs} {k i : Nat} (h : i < k) : (l.take k).getD i z = l.getD i z := by
  rw [List.getD_eq_getElem?_getD, List.getElem?_take_of_lt h, ← List.getD_eq_getElem?_getD]
theorem fidx_drop {p : Rs → Bool} {z : Rs} {l : List Rs} {k i : Nat} (hk : k ≤ l.length) (hi : i ≤ k) (h : ∀ j, j < i → p (l.getD j z) = false) : (l.take k).findIdx? p = (((l.take k).drop i).findIdx? p).map (· + i) := by
  refine witG_loop (z := z) (l.take k) i (fun j h1 h2 => ?_) (by rw [List.length_take]; omega)
  rw [List.getD_eq_getElem?_getD, List.getElem?_take_of_lt (by rw [List.length_take] at h2; omega), ← List.getD_eq_getElem?_getD]; exact h j h1
set_option maxHeartbeats 4000000 in
theorem Witness_ok (l : List Rs) (hl : l.length ≤ 10000) : Ok Tryz.prog 115 [rssC l] (.fr (tupT (witC (sd cmpR (l.filter okR))))) := by
  have hO := Order_ok l hl
  have hol : (sd cmpR (l.filter okR)).length ≤ 10000 := by
    have := Zn cmpR (l.filter okR)
    have := List.length_filter_le okR l
    omega
  generalize sd cmpR (l.filter okR) = o at hO hol ⊢
  have hC := Clash_ok o (by omega)
  have hle := clashG_le o []
  have ew : witG o = if clashG [] o < o.length then (o.take (clashG [] o)).findIdx? (fun a => conB a (o.getD (clashG [] o) rs0)) else none := rfl
  have eC : (CT.fr (tupT (witC o))) = .fr (tupT (match witG o with
    | some i => [ikC (idOf (o.getD i rs0)), ikC (idOf (o.getD (clashG [] o) rs0)), boolC true]
    | none => [ikC ⟨0, 0, 0⟩, ikC ⟨0, 0, 0⟩, boolC false])) := rfl
  rw [eC]
  clear eC
  generalize clashG [] o = k at hC hle ew ⊢
  generalize witG o = wt at ew ⊢
  refine Ok.enter Tryz.func115 rfl _ Tryz.ntmps115 rfl ?_
  intro S w
  (refine Qw (Qq fun K hK => ?_))
  refine Qg 0 rfl rfl (by with_reducible exact zvID) rfl rfl rfl ?_
  refine Qg 1 rfl rfl (by with_reducible exact zvID) rfl rfl rfl ?_
  (refine Qv rfl rfl rfl ?_; refine Qj (hK _ _ (Qz (Qw ?_))); clear hK K; refine Qq (fun K hK => ?_); refine Qx rfl rfl rfl ?_)
  refine Xp 3 goOrder hO rfl rfl rfl rfl rfl rfl ?_
  refine X2 3 _ rfl (Xn _ _) XZ ?_
  (refine Qv rfl rfl rfl ?_; refine Qj (hK _ _ (Qz (Qw ?_))); clear hK K; refine Qq (fun K hK => ?_); refine Qx rfl rfl rfl ?_)
  refine QW goClash hC rfl rfl rfl rfl ?_
  (refine Qv rfl rfl rfl ?_; refine Qj (hK _ _ (Qz (Qw (Qw ?_)))); clear hK K; refine Qq (fun K hK => ?_); refine Qv rfl rfl rfl ?_; refine Qj (hK _ _ (Qz (Q4 ?_))); clear hK K)
  refine Xj (α := Nat) (fun i => i ≤ k ∧ (k < o.length → ∀ j, j < i → conB (o.getD j rs0) (o.getD k rs0) = false))
    (fun i => [(2, .own 0), (3, .own 1), (5, .ct (rssC o)), (6, .ct (intC k)), (7, .ct (intC i))]) (fun _ => [(1, .box 124 (ikCs ⟨0, 0, 0⟩)), (0, .box 124 (ikCs ⟨0, 0, 0⟩))]) (fun i => k - i) 0 ⟨Nat.zero_le _, fun _ j hj => by omega⟩ (by exact QX rfl ⟨rfl, rfl, rfl, rfl, rfl, trivial⟩) ?_
  intro i ⟨hi, hq⟩
  try dsimp only
  (refine Qw (Qw (Qq fun K hK => ?_)); refine Qx rfl rfl rfl ?_; refine Qx rfl rfl rfl ?_; refine Qk ilss rfl rfl rfl rfl ?_; refine Qx rfl rfl rfl ?_)
  refine Q6 15 (p := (i : Int) < k) rfl (fun h => ?_) (fun h => ?_)
  · (refine Qx rfl rfl rfl ?_; refine Qx rfl rfl rfl ?_; refine Qd rfl rfl (by with_reducible exact sRes.und) (List.length_map ..) rfl ?_; refine Qk ilss rfl rfl rfl rfl ?_; refine QZ rfl rfl rfl rfl ?_; refine Qj (hK _ _ (Qz ?_)); clear hK K)
    refine Q2 rfl (fun h2 => ?_) (fun h2 => ?_)
    · have hk : k < o.length := by omega
      rw [if_pos hk, fidx_drop (i := i) hle hi (hq hk)] at ew
      have e1 : (i : Int).toNat = i := Int.toNat_natCast i
      have e2 : (k : Int).toNat = k := Int.toNat_natCast k
      rw [drop_getD (z := rs0) (show i < (o.take k).length by rw [List.length_take]; omega), take_getD (by omega), List.findIdx?_cons] at ew
      have hCo := Contradict_ok (o.getD i rs0) (o.getD k rs0)
      have hn : conB (o.getD i rs0) (o.getD k rs0) = false → ∀ j, j < i + 1 → conB (o.getD j rs0) (o.getD k rs0) = false := fun h j hj => by
        rcases Nat.lt_or_ge j i with h3 | h3
        · exact hq hk j h3
        · have : j = i := by omega
          rw [this]; exact h
      generalize conB (o.getD i rs0) (o.getD k rs0) = cb at hCo hn ew
      have hA := YJ (o.getD i rs0)
      have hB := YJ (o.getD k rs0)
      (refine Q1 (Qz (Qw (Q4 (Qw ?_)))))
      refine Xu (by with_reducible exact mixed) 9 (.p 0 (.p 1 (.p 2 (.p 4 (.p 5 (.p 6 (.f 3 (.f 7 (.m 8 .done))))))))) (by kernel_rfl) (fun K hK => ?_)
      (refine Qx rfl rfl rfl ?_; refine Qx rfl rfl rfl ?_; refine Ql rfl rfl rfl (by with_reducible exact sRes) (by omega) (Z9 (by omega) (by omega)) rfl ?_; refine Qx rfl rfl rfl ?_; refine Qx rfl rfl rfl ?_; refine Ql rfl rfl rfl (by with_reducible exact sRes) (by omega) (Z9 (by omega) (by omega)) rfl ?_; refine XW (n := 17) rfl rfl rfl (by with_reducible exact lRes) rfl rfl ?_; refine XW (n := 17) rfl rfl rfl (by with_reducible exact lRes) rfl rfl ?_)
      rw [e1, e2]
      skip
      refine QW goContradict hCo rfl rfl rfl rfl ?_
      (refine Qj (hK _ _ (Qz ?_)); clear hK K)
      refine Xy rfl (fun h3 => ?_) (fun h3 => ?_)
      · rw [if_pos h3] at ew
        simp only [Option.map_some, Nat.zero_add] at ew
        (refine Qw ?_)
        refine Xu (by with_reducible exact mixed) 10 (.p 0 (.p 1 (.p 2 (.p 5 (.p 6 (.p 7 (.f 3 (.fork 4 (.m 8 (.m 9 (.a 10 (.a 11 (.p 12 .done))))) 8 (.m 4 (.m 9 (.a 10 (.a 11 (.p 12 .done))))))))))))) (by kernel_rfl) (fun K hK => ?_)
        (refine Qx rfl rfl rfl ?_; refine Qx rfl rfl rfl ?_; refine Ql rfl rfl rfl (by with_reducible exact sRes) (by omega) (Z9 (by omega) (by omega)) rfl ?_; refine Qx rfl rfl rfl ?_; refine Qx rfl rfl rfl ?_; refine Ql rfl rfl rfl (by with_reducible exact sRes) (by omega) (Z9 (by omega) (by omega)) rfl ?_; refine XW (n := 17) rfl rfl rfl (by with_reducible exact lRes) rfl rfl ?_)
        rw [e1]
        skip
        refine Yv ?_ ?_
        · refine QW Zg hA rfl rfl rfl rfl ?_
          (refine XW (n := 17) rfl rfl rfl (by with_reducible exact lRes) rfl rfl ?_)
          rw [e2]
          skip
          refine QW Zg hB rfl rfl rfl rfl ?_
          skip
          refine Qc 3 rfl rfl rfl rfl rfl (by with_reducible exact szID) rfl rfl ?_
          refine Qc 3 rfl rfl rfl rfl rfl (by with_reducible exact szID) rfl rfl ?_
          (refine Qv rfl rfl rfl ?_; refine Qj (hK _ _ (Qz (Q0 (Q8 (QY (QY (Q8 (QY ?_)))))))); clear hK K)
          refine QK [_, _, _] rfl (Qi (n := 3) rfl rfl (by with_reducible exact lID) rfl (Qi (n := 3) rfl rfl (by with_reducible exact lID) rfl (Qu rfl QQ))) (by rw [ew]; rfl) rfl
        · (refine XW (n := 17) rfl rfl rfl (by with_reducible exact lRes) rfl rfl ?_)
          rw [e2]
          skip
          refine QW Zg hA rfl rfl rfl rfl ?_
          skip
          refine QW Zg hB rfl rfl rfl rfl ?_
          skip
          refine Qc 3 rfl rfl rfl rfl rfl (by with_reducible exact szID) rfl rfl ?_
          refine Qc 3 rfl rfl rfl rfl rfl (by with_reducible exact szID) rfl rfl ?_
          (refine Qv rfl rfl rfl ?_; refine Qj (hK _ _ (Qz (Q0 (Q8 (QY (QY (Q8 (QY ?_)))))))); clear hK K)
          refine QK [_, _, _] rfl (Qi (n := 3) rfl rfl (by with_reducible exact lID) rfl (Qi (n := 3) rfl rfl (by with_reducible exact lID) rfl (Qu rfl QQ))) (by rw [ew]; rfl) rfl
      · (refine Q1 (Qz (Qq fun K hK => ?_)); refine Qx rfl rfl rfl ?_; refine Qk (iadd (by omega) (by omega)) rfl rfl rfl rfl ?_; refine Qv rfl rfl rfl ?_; refine Qj (hK _ _ (Q3 ?_)); clear hK K)
        refine Q9 (i + 1) (by omega) ⟨by omega, fun _ => hn h3⟩ (by exact QX rfl ⟨rfl, rfl, rfl, rfl, by simp only [Int.natCast_add]; rfl, trivial⟩)
    · rw [if_neg (by omega)] at ew
      (refine Qp (Qz (Qw (Qq fun K hK => ?_))))
      refine Qs rfl (by with_reducible exact bID') rfl .nil rfl ?_
      refine Qs rfl (by with_reducible exact bID') rfl .nil rfl ?_
      refine Qc 3 rfl rfl rfl rfl rfl (by with_reducible exact szID) rfl rfl ?_
      refine Qc 3 rfl rfl rfl rfl rfl (by with_reducible exact szID) rfl rfl ?_
      (refine Qv rfl rfl rfl ?_; refine Qj (hK _ _ (Qz (Q0 ?_))); clear hK K)
      refine QK [_, _, _] rfl (Qi (n := 3) rfl rfl (by with_reducible exact lID) rfl (Qi (n := 3) rfl rfl (by with_reducible exact lID) rfl (Qu rfl QQ))) (by rw [ew]; rfl) rfl
  · have ew : wt = none := by
      rw [ew]
      split
      · rename_i hk
        rw [fidx_drop (i := i) hle hi (hq hk), show i = k by omega, List.drop_of_length_le (by rw [List.length_take]; omega)]; rfl
      · rfl
    (refine Qy rfl rfl rfl ?_; refine Qy rfl rfl rfl ?_; refine Qy rfl rfl rfl ?_; refine Qy rfl rfl rfl ?_; refine QU rfl rfl rfl rfl ?_; refine Qj (hK _ _ (Qz (Xv rfl (Qp (Qz (Qw ?_)))))); clear hK K; refine Qq (fun K hK => ?_))
    refine Qs rfl (by with_reducible exact bID') rfl .nil rfl ?_
    refine Qs rfl (by with_reducible exact bID') rfl .nil rfl ?_
    refine Qc 3 rfl rfl rfl rfl rfl (by with_reducible exact szID) rfl rfl ?_
    refine Qc 3 rfl rfl rfl rfl rfl (by with_reducible exact szID) rfl rfl ?_
    (refine Qv rfl rfl rfl ?_; refine Qj (hK _ _ (Qz (Q0 ?_))); clear hK K)
    refine QK [_, _, _] rfl (Qi (n := 3) rfl rfl (by with_reducible exact lID) rfl (Qi (n := 3) rfl rfl (by with_reducible exact lID) rfl (Qu rfl QQ))) (by rw [ew]; rfl) rfl
theorem goConsistent : InGo Tryz.prog 74 := InGo.of Tryz.func74 rfl (by decide)
def consB (l : List Rs) : Bool := (witG (sd cmpR (l.filter okR))).isNone
theorem Consistent_ok (l : List Rs) (hl : l.length ≤ 10000) : Ok Tryz.prog 74 [rssC l] (boolC (consB l)) := by
  have hW := Witness_ok l hl
  have e0 : consB l = (witG (sd cmpR (l.filter okR))).isNone := rfl
  have hw : ∃ i j : Ik, witC (sd cmpR (l.filter okR)) = [ikC i, ikC j, boolC (!consB l)] := by
    rw [e0]
    unfold witC
    cases witG (sd cmpR (l.filter okR)) <;> exact ⟨_, _, rfl⟩
  obtain ⟨a, b, hw⟩ := hw
  rw [hw] at hW
  generalize consB l = c at hW ⊢
  refine Ok.enter Tryz.func74 rfl _ Tryz.ntmps74 rfl ?_
  intro S w
  (refine Qw (Qq fun K hK => ?_); refine Qv rfl rfl rfl ?_; refine Qj (hK _ _ (Qz (Qw ?_))); clear hK K; refine Qq (fun K hK => ?_); refine Qx rfl rfl rfl ?_)
  refine QW goWitness hW rfl rfl rfl rfl ?_
  (refine Qx rfl rfl rfl ?_; refine Qf rfl rfl rfl rfl ?_; refine Qf rfl rfl rfl rfl ?_; refine Qf rfl rfl rfl rfl ?_)
  refine Qg 0 rfl rfl (by with_reducible exact zvID) rfl rfl rfl ?_
  refine Qg 1 rfl rfl (by with_reducible exact zvID) rfl rfl rfl ?_
  refine Qc 3 rfl rfl rfl rfl rfl (by with_reducible exact szID) rfl rfl ?_
  refine Qc 3 rfl rfl rfl rfl rfl (by with_reducible exact szID) rfl rfl ?_
  (refine Qv rfl rfl rfl ?_; refine Qj (hK _ _ (Qz (Qw ?_))); clear hK K; refine Qq (fun K hK => ?_); refine Qx rfl rfl rfl ?_; refine Qm rfl rfl rfl ?_; refine Qv rfl rfl rfl ?_; refine Qj (hK _ _ (Qz (Q0 ?_))); clear hK K)
  refine QK [_] rfl (Qu rfl QQ) (by rw [Bool.not_not]; rfl) rfl
end Go.Proofs.YtlkdkbdgnjcopaaGreat
