/- The proof that LossNear holds for every input, without conditions: part 2 of 5. -/
import Derived.Test.YtlkdkbdgnjcopaaGreatZ1
import Derived.Lib.AppendZeros
import Derived.Laws.Slices
namespace Go.Proofs.YtlkdkbdgnjcopaaGreat
open Go.Own
attribute [local irreducible] St Ops Go.Own.Fin Ok OkB OkN
theorem sBytes : SlcT Tryz.prog 22 5 1 1 (.int .u8 0) := SlcT.of Tryz.underlying22 (by kernel_rfl) rfl (by decide)
theorem lBytes : Ld1 Tryz.prog 22 := Ld1.of _ Tryz.underlying22 rfl
theorem lU8 : Ld1 Tryz.prog 5 := Ld1.of _ Tryz.underlying5 rfl
theorem uU8 : Tryz.prog.underlying 5 = some (.int .u8) := Tryz.underlying5
theorem uInt : Tryz.prog.underlying 3 = some (.int .i64) := Tryz.underlying3
theorem fC0 : fldInfo Tryz.prog 78 0 = some (0, some 1) := by kernel_rfl
theorem fC1 : fldInfo Tryz.prog 78 1 = some (1, some 1) := by kernel_rfl
theorem bCodes : bInfo Tryz.prog 78 = some (.agg #[.slice none 0 0, .int .i64 0], [(0, some 1), (1, some 1)]) := by kernel_rfl
abbrev bytesC (bs : List Int) : CT := .fr (sliceT 1 (bs.map fun b => [CT.ex (.int .u8 b)]))
abbrev codes (bs : List Int) (p : Nat) : List CT := [bytesC bs, intC p]
structure Bytes (bs : List Int) : Prop where
  lo : ∀ b ∈ bs, 0 ≤ b
  hi : ∀ b ∈ bs, b < 256
  len : bs.length ≤ 400
theorem bytes_at {bs : List Int} {j : Int} (h0 : 0 ≤ j) (h : j < (bs.length : Int)) : (bs.map fun b => [CT.ex (.int .u8 b)])[j.toNat]? = some [CT.ex (.int .u8 (bs.getD j.toNat 0))] := by
  have hl : j.toNat < bs.length := by omega
  rw [List.getElem?_map, List.getElem?_eq_getElem hl, List.getD_eq_getElem?_getD, List.getElem?_eq_getElem hl]; rfl
theorem Bytes.at {bs : List Int} (h : Bytes bs) (j : Nat) : 0 ≤ bs.getD j 0 ∧ bs.getD j 0 < 256 := by
  rw [List.getD_eq_getElem?_getD]
  cases e : bs[j]? with
  | none => simp
  | some b =>
    have := List.mem_of_getElem? e; exact ⟨h.lo b this, h.hi b this⟩
theorem goNext : InGo Tryz.prog 11 := InGo.of Tryz.func11 rfl (by decide)
set_option maxHeartbeats 2000000 in
theorem Next_ok (bs : List Int) (p : Nat) (n : Int) (h1 : 1 ≤ n) (h2 : n ≤ 256) (hb : Bytes bs) :
    OkB Tryz.prog 11 78 (codes bs p) [intC n] (fun q : Int × Nat => 0 ≤ q.1 ∧ q.1 < n) (fun q => intC q.1) (fun q => codes bs q.2) := by
  have hlen := hb.len
  refine OkB.enter Tryz.func11 J _ Tryz.ntmps11 J ?_
  intro S w g; refine Qw (Qx fun K hK => ?_); refine Qv J J J (Qj (hK _ _ (Qz (Qw (Qw ?_))))); clear hK K; refine Xu mixed 14 (.p 0 (.p 1 (.p 2 (.p 4 (.p 5 (.p 6 (.f 3 (.f 7 (.p 8 (.p 9 (.p 10 (.p 11 (.p 12 (.p 13 .done)))))))))))))) (by kernel_rfl) (fun K hK => ?_); refine Qq J J J (Xe J J J J (QV J J J fC1 J (Qq J J J (Xe J J J J (QV J J J fC0 J (QJ J J J J J lInt J (QJ J J J J J lBytes J (Qd J J sBytes.und (List.length_map ..) J (Qk igeq J J J J (Qq J J J (Q5 16 J (fun h => ?_) (fun h => ?_))))))))))))
  · refine Qy J J J (Qy J J J (QZ J J J J (Qj (hK _ _ (Qz (Qo J (Qw ?_))))))); clear hK K; refine Qx (fun K hK => ?_); refine Qv J J J (Qj (hK _ _ (Qz (Q0 (QY ?_))))); clear hK K; refine Zf (0, p) [_] rfl (QQ J QX) J J ⟨by show (0 : Int) ≤ 0; omega, by show (0 : Int) < n; omega⟩
  · refine Qq J J J (Qk ilss J J J J (QK J J J J (Qj (hK _ _ (Qz ?_))))); clear hK K; refine Q2 J (fun h' => ?_) (fun h' => ?_)
    · exact absurd h' (by omega)
    · refine Q1 (Qz (Qw ?_)); refine Xu mixed 12 (.p 0 (.p 1 (.p 2 (.p 4 (.p 5 (.p 6 (.f 3 (.f 7 (.p 8 (.f 9 (.p 10 (.p 11 .done)))))))))))) (by kernel_rfl) (fun K hK => ?_); refine Qq J J J (Xe J J J J (QV J J J fC0 J (Qq J J J (Xe J J J J (QV J J J fC1 J (QJ J J J J J lBytes J (QJ J J J J J lInt J (Qg J J J sBytes (by omega) (bytes_at (by omega) (by omega)) J ?_))))))))
      refine Xy J J J lU8 J ?_
      have hx := hb.at p; generalize he : bs.getD p 0 = x at hx
      refine Zg (q := x) J J uU8 uInt (by rw [Int.toNat_natCast, he]; exact Yk (by omega) (by omega)) J ?_
      refine Qv J J J (Qj (hK _ _ (Qz (Qw ?_)))); clear hK K; refine Qx (fun K hK => ?_); refine Qq J J J (Xe J J J J (QV J J J fC1 J (QJ J J J J J lInt J (Qk (iadd (by omega) (by omega)) J J J J ?_)))); refine Xe J J J J (QV J J J fC1 J (Xh J J J J J zInt (by simp [Ent.cs]) ?_)); refine Qj (hK _ _ (Qz (Qw (Qw ?_)))); clear hK K; refine Qx (fun K hK => ?_); refine Qq J J J (Qk igtr J J J J (Qj (hK _ _ (Qz ?_)))); clear hK K; refine Q2 J (fun h' => ?_) (fun h' => ?_)
      · exact absurd h' (by omega)
      · refine Q1 (Qz (Qw (Qx fun K hK => ?_))); refine Qq J J J (Qq J J J (Qk (irem (by omega) (by omega)) J J J J ?_)); refine Qv J J J (Qj (hK _ _ (Qz (Q0 ?_)))); clear hK K; refine Zf (x % n, p + 1) [_] rfl (QQ J QX) J J ⟨Int.emod_nonneg _ (by omega), Int.emod_lt_of_pos _ (by omega)⟩
theorem goNew : InGo Tryz.prog 37 := InGo.of Tryz.func37 rfl (by decide)
theorem New_ok (bs : List Int) : OkN Tryz.prog 37 [bytesC bs, intC 400] 78 (codes (bs.take 400) 0) := by
  refine OkN.enter Tryz.func37 J _ Tryz.ntmps37 J ?_
  intro S w; refine Qw (Qx fun K hK => ?_); refine Qv J J J (Qj (hK _ _ (Qz (Qw (Qw ?_))))); clear hK K; refine Qx (fun K hK => ?_); refine Qq J J J (Qd J J sBytes.und (List.length_map ..) J (Qq J J J (Qk igtr J J J J (Qj (hK _ _ (Qz ?_)))))); clear hK K; refine Q2 J (fun h' => ?_) (fun h' => ?_)
  · refine Qx (fun K hK => ?_); refine Qq J J J (Qq J J J (Ops.cutHi J J J sBytes (by omega) (by rw [List.length_map]; omega) J ?_)); rw [← List.map_take]; refine Qv J J J (Qj (hK _ _ (Qz (Qw ?_)))); clear hK K; refine Qx (fun K hK => ?_); refine Qq J J J (Xq J bCodes J (.one J J J J .nil) J (Xk 0 J J J J J J J (Qv J J J (Qj (hK _ _ (Qz (Q0 ?_))))))); clear hK K; refine Fin.retN J J J J
  · refine Q1 (Qz (Qw (Qx fun K hK => ?_))); refine Qq J J J (Xq J bCodes J (.one J J J J .nil) J (Xk 0 J J J J J J J (Qv J J J (Qj (hK _ _ (Qz (Q0 ?_))))))); clear hK K; refine Fin.retN J J (by rw [List.take_of_length_le (by omega)]; rfl) J
theorem goRoll : InGo Tryz.prog 10 := InGo.of Tryz.func10 rfl (by decide)
theorem Roll_ok (bs : List Int) : OkN Tryz.prog 10 [bytesC bs] 78 (codes (bs.take 400) 0) := by
  refine OkN.enter Tryz.func10 J _ Tryz.ntmps10 J ?_
  intro S w; refine Qw (Qx fun K hK => ?_); refine Qv J J J (Qj (hK _ _ (Qz (Qw ?_)))); clear hK K; refine Qx (fun K hK => ?_); refine Qq J J J (Ops.callN 0 goNew (New_ok bs) J J J J J J (Qv J J J (Qj (hK _ _ (Qz (Q0 ?_)))))); clear hK K; refine Fin.retN J J J J
theorem goPick : InGo Tryz.prog 24 := InGo.of Tryz.func24 rfl (by decide)
theorem Pick_ok (bs : List Int) (p : Nat) (xs : List Int) (h1 : 1 ≤ xs.length) (h2 : xs.length ≤ 256) (hb : Bytes bs) :
    OkB Tryz.prog 24 78 (codes bs p) [intsC xs] (fun q : Int × Nat => q.1 ∈ xs) (fun q => intC q.1) (fun q => codes bs q.2) := by
  refine OkB.enter Tryz.func24 J _ Tryz.ntmps24 J ?_
  intro S w g; refine Qw (Qx fun K hK => ?_); refine Qv J J J (Qj (hK _ _ (Qz (Qw ?_)))); clear hK K; refine Qx (fun K hK => ?_); refine Qq J J J (Qq J J J (Qq J J J (Qd J J sInts.und (List.length_map ..) J (Xw goNext (Next_ok bs p xs.length (by omega) (by omega) hb) J J J J J (fun q hq => ?_))))); obtain ⟨x, p'⟩ := q; dsimp only at hq
  refine Qg J J J sInts (by omega) (X5 (by omega) (by omega)) J ?_
  refine Xy J J J lInt J (Qv J J J (Qj (hK _ _ (Qz (Q0 ?_))))); clear hK K
  refine Zf (xs.getD x.toNat 0, p') [_] rfl (QQ J QX) J J ?_
  show xs.getD x.toNat 0 ∈ xs
  have hl : x.toNat < xs.length := by omega
  rw [List.getD_eq_getElem?_getD, List.getElem?_eq_getElem hl]; exact List.getElem_mem hl
attribute [local irreducible] OkF OkL OkT
theorem wrap_u32 {n : Int} (h1 : 0 ≤ n) (h2 : n < 4294967296) : IntKind.u32.wrap n = n := by
  rw [show IntKind.u32.wrap n = n % 4294967296 by simp [IntKind.wrap, IntKind.bits, IntKind.signed]]; omega
theorem goAddress : InGo Tryz.prog 23 := InGo.of Tryz.func23 rfl (by decide)
theorem Address_ok (bs : List Int) (p : Nat) (hb : Bytes bs) : OkB Tryz.prog 23 78 (codes bs p) [] (fun q : Int × Nat => 0 ≤ q.1 ∧ q.1 < 200000000) (fun q => adrC q.1) (fun q => codes bs q.2) := by
  refine OkB.enter Tryz.func23 rfl _ Tryz.ntmps23 rfl ?_
  intro S w g
  (refine Qw (Qx fun K hK => ?_); refine Qv rfl rfl rfl ?_; refine Qj (hK _ _ (Qz (Qw ?_))); clear hK K; refine Qx (fun K hK => ?_); refine Qq rfl rfl rfl ?_)
  refine Ops.lit (m := 8) (cs := ints [1, 2, 5, 6, 9, 10, 12, 13]) rfl rfl (by with_reducible exact sInts) (.one rfl rfl rfl rfl (.one rfl rfl rfl rfl (.one rfl rfl rfl rfl (.one rfl rfl rfl rfl (.one rfl rfl rfl rfl (.one rfl rfl rfl rfl (.one rfl rfl rfl rfl (.one rfl rfl rfl rfl .nil)))))))) (by decide) rfl ?_
  refine Xw goPick (Pick_ok bs p [1, 2, 5, 6, 9, 10, 12, 13] (by decide) (by decide) hb) rfl rfl rfl rfl rfl (fun q hq => ?_)
  obtain ⟨x, p1⟩ := q
  have hx : 1 ≤ x ∧ x ≤ 13 := by
    simp only [List.mem_cons, List.not_mem_nil, or_false] at hq
    omega
  dsimp only
  (refine Qk (iadd (by omega) (by omega)) rfl rfl rfl rfl ?_)
  refine Zg (q := 167772160 + x) rfl rfl (by with_reducible exact uInt) (by with_reducible exact uAddr) (wrap_u32 (by omega) (by omega)) rfl ?_
  (refine Qv rfl rfl rfl ?_; refine Qj (hK _ _ (Qz (Q0 ?_))); clear hK K)
  refine Zf (167772160 + x, p1) [_] rfl (QQ rfl QX) rfl rfl ⟨by show 0 ≤ 167772160 + x; omega, by show 167772160 + x < 200000000; omega⟩
attribute [local irreducible] wpR
section
variable {X : Ctx} {L : AL} {B : BL} {ops : Array Oper} {K : Act → World → Prop} {r : Pl} {k : Kd}
  {x y z : Operand} {d : Nat} {t t2 t' : TypeId} {pos : String} {af : Array Edge} {g : Option (Nat × Bool)}
def evAllI (L : AL) : Nat → List (Nat × Operand) → List Int → Prop
  | _, [], [] => True
  | s, (i, x) :: q, y :: ys => i = s ∧ ev L x = some (.ct (intC y)) ∧ evAllI L (s + 1) q ys
  | _, _, _ => False
theorem parts_ints : ∀ (ps : List (Nat × Operand)) (ys : List Int) (s : Nat) (pre zs : List CT), pre.length = s → zs.length = ys.length → evAllI L s ps ys → BParts L (fun i => some (i * 1, 1)) ps (pre ++ zs) (pre ++ ints ys)
  | [], [], _, pre, zs, _, h2, _ => by
    have : zs = [] := List.eq_nil_of_length_eq_zero h2
    subst this
    exact .nil
  | [], _ :: _, _, _, _, _, _, h => h.elim
  | _ :: _, [], _, _, _, _, _, h => h.elim
  | (i, x) :: q, y :: ys, s, pre, z :: zs, h1, h2, h => by
    obtain ⟨rfl, h3, h4⟩ := h
    refine .one (off := i * 1) (c := intC y) rfl h3 rfl (by rw [Nat.blt_eq, List.length_append, List.length_cons]; omega) ?_
    have e : (pre ++ z :: zs).set (i * 1) (intC y) = (pre ++ [intC y]) ++ zs := by
      rw [Nat.mul_one, List.set_append_right _ _ (by omega), h1, Nat.sub_self, List.set_cons_zero, List.append_assoc]; rfl
    have e2 : pre ++ ints (y :: ys) = (pre ++ [intC y]) ++ ints ys := by simp [ints]
    rw [e, e2]
    exact parts_ints q ys (i + 1) (pre ++ [intC y]) zs (by rw [List.length_append, h1]; rfl) (by simpa using h2) h4
  | _ :: _, _ :: _, _, _, [], _, h2, _ => by simp at h2
theorem chunk_ints : ∀ xs : List Int, chunk 1 xs.length (ints xs) = xs.map fun x => [intC x]
  | [] => rfl
  | x :: xs => by
    show ((ints (x :: xs)).take 1) :: chunk 1 xs.length ((ints (x :: xs)).drop 1) = _
    rw [show (ints (x :: xs)).drop 1 = ints xs by simp [ints], chunk_ints xs]
    rfl
theorem Ops.litI {ps : List (Nat × Operand)} {m : Nat} (xs : List Int) (hk : k.mk = true) (hg : gd ops L g = some true) (hT : SlcT X.P t 3 1 8 (.int .i64 0)) (hm : xs.length = m) (hp : evAllI L 0 ps xs) (hml : m ≤ 16777216) (hn : Nat.blt d X.n = true)
    (h : Ops X ops r ((d, .ct (intsC xs)) :: L) B K) : Ops X ops (.cons ⟨some d, .buildSlice t m ps.toArray, t', pos, af, g⟩ k r) L B K := by
  subst hm
  refine Ops.lit (cs := ints xs) hk hg hT ?_ (by omega) hn ?_
  · exact parts_ints ps xs 0 [] _ rfl ((zinit_len hT xs.length).trans (Nat.mul_one _)) hp
  · rw [chunk_ints]; exact h
end
set_option maxHeartbeats 2000000 in
theorem Zi (bs : List Int) (p : Nat) (n : Int) (h1 : 1 ≤ n) (h2 : n ≤ 1000000) (hb : Bytes bs) :
    OkB Tryz.prog 11 78 (codes bs p) [intC n] (fun q : Int × Nat => 0 ≤ q.1 ∧ q.1 < n) (fun q => intC q.1) (fun q => codes bs q.2) := by
  rcases Int.lt_or_le 256 n with h3 | h3
  rotate_left
  · exact Next_ok bs p n h1 h3 hb
  have hlen := hb.len
  refine OkB.enter Tryz.func11 rfl _ Tryz.ntmps11 rfl ?_
  intro S w g
  (refine Qw (Qx fun K hK => ?_); refine Qv rfl rfl rfl ?_; refine Qj (hK _ _ (Qz (Qw (Qw ?_)))); clear hK K)
  refine Xu (by with_reducible exact mixed) 14 (.p 0 (.p 1 (.p 2 (.p 4 (.p 5 (.p 6 (.f 3 (.f 7 (.p 8 (.p 9 (.p 10 (.p 11 (.p 12 (.p 13 .done)))))))))))))) (by kernel_rfl) (fun K hK => ?_)
  (refine Qq rfl rfl rfl ?_; refine Xe rfl rfl rfl rfl ?_; refine QV rfl rfl rfl (by with_reducible first | exact fC0 | exact fC1 | exact fR0 | exact fR1) rfl ?_; refine Qq rfl rfl rfl ?_; refine Xe rfl rfl rfl rfl ?_; refine QV rfl rfl rfl (by with_reducible first | exact fC0 | exact fC1 | exact fR0 | exact fR1) rfl ?_; refine QJ rfl rfl rfl rfl rfl (by with_reducible first | exact lBytes | exact lInt | exact lInts) rfl ?_; refine QJ rfl rfl rfl rfl rfl (by with_reducible first | exact lBytes | exact lInt | exact lInts) rfl ?_; refine Qd rfl rfl (by with_reducible exact sBytes.und) (List.length_map ..) rfl ?_; refine Qk igeq rfl rfl rfl rfl ?_; refine Qq rfl rfl rfl ?_)
  refine Q5 16 rfl (fun h => ?_) (fun h => ?_)
  · (refine Qy rfl rfl rfl ?_; refine Qy rfl rfl rfl ?_; refine QZ rfl rfl rfl rfl ?_; refine Qj (hK _ _ (Qz (Qo rfl (Qw ?_)))); clear hK K; refine Qx (fun K hK => ?_); refine Qv rfl rfl rfl ?_; refine Qj (hK _ _ (Qz (Q0 (QY ?_)))); clear hK K)
    refine Zf (0, p) [_] rfl (QQ rfl QX) rfl rfl ⟨by show (0 : Int) ≤ 0; omega, by show (0 : Int) < n; omega⟩
  · (refine Qq rfl rfl rfl ?_; refine Qk ilss rfl rfl rfl rfl ?_; refine QK rfl rfl rfl rfl ?_; refine Qj (hK _ _ (Qz ?_)); clear hK K)
    refine Q2 rfl (fun h' => ?_) (fun h' => ?_)
    · exact absurd h' (by omega)
    · (refine Q1 (Qz (Qw ?_)))
      refine Xu (by with_reducible exact mixed) 12 (.p 0 (.p 1 (.p 2 (.p 4 (.p 5 (.p 6 (.f 3 (.f 7 (.p 8 (.f 9 (.p 10 (.p 11 .done)))))))))))) (by kernel_rfl) (fun K hK => ?_)
      (refine Qq rfl rfl rfl ?_; refine Xe rfl rfl rfl rfl ?_; refine QV rfl rfl rfl (by with_reducible first | exact fC0 | exact fC1 | exact fR0 | exact fR1) rfl ?_; refine Qq rfl rfl rfl ?_; refine Xe rfl rfl rfl rfl ?_; refine QV rfl rfl rfl (by with_reducible first | exact fC0 | exact fC1 | exact fR0 | exact fR1) rfl ?_; refine QJ rfl rfl rfl rfl rfl (by with_reducible first | exact lBytes | exact lInt | exact lInts) rfl ?_; refine QJ rfl rfl rfl rfl rfl (by with_reducible first | exact lBytes | exact lInt | exact lInts) rfl ?_; refine Qg rfl rfl rfl (by with_reducible exact sBytes) (by omega) (bytes_at (by omega) (by omega)) rfl ?_; refine Xy rfl rfl rfl (by with_reducible exact lU8) rfl ?_)
      have hx := hb.at p
      generalize he : bs.getD p 0 = x at hx
      refine Zg (q := x) rfl rfl (by with_reducible exact uU8) (by with_reducible exact uInt) (by rw [Int.toNat_natCast, he]; exact Yk (by omega) (by omega)) rfl ?_
      (refine Qv rfl rfl rfl ?_; refine Qj (hK _ _ (Qz (Qw ?_))); clear hK K; refine Qx (fun K hK => ?_); refine Qq rfl rfl rfl ?_; refine Xe rfl rfl rfl rfl ?_; refine QV rfl rfl rfl (by with_reducible first | exact fC0 | exact fC1 | exact fR0 | exact fR1) rfl ?_; refine QJ rfl rfl rfl rfl rfl (by with_reducible first | exact lBytes | exact lInt | exact lInts) rfl ?_; refine Qk (iadd (by omega) (by omega)) rfl rfl rfl rfl ?_; refine Xe rfl rfl rfl rfl ?_; refine QV rfl rfl rfl (by with_reducible first | exact fC0 | exact fC1 | exact fR0 | exact fR1) rfl ?_; refine Xh rfl rfl rfl rfl rfl (by with_reducible exact zInt) (by simp [Ent.cs]) ?_; refine Qj (hK _ _ (Qz (Qw (Qw ?_)))); clear hK K; refine Qx (fun K hK => ?_); refine Qq rfl rfl rfl ?_; refine Qk igtr rfl rfl rfl rfl ?_; refine Qj (hK _ _ (Qz ?_)); clear hK K)
      refine Q2 rfl (fun h' => ?_) (fun h' => ?_)
      · (refine Qw (Qx fun K hK => ?_); refine Qq rfl rfl rfl ?_; refine Qk (imul (by omega) (by omega)) rfl rfl rfl rfl ?_; refine Qq rfl rfl rfl ?_)
        refine Xw goNext (Next_ok bs (p + 1) 256 (by decide) (by decide) hb) rfl rfl rfl rfl rfl (fun q hq => ?_)
        obtain ⟨y, p1⟩ := q
        dsimp only at hq ⊢
        (refine Qk (iadd (by omega) (by omega)) rfl rfl rfl rfl ?_; refine Qq rfl rfl rfl ?_; refine Qk (irem (by omega) (by omega)) rfl rfl rfl rfl ?_; refine Qv rfl rfl rfl ?_; refine Qj (hK _ _ (Qz (Q0 (QY ?_)))); clear hK K)
        refine Zf ((256 * x + y) % n, p1) [_] rfl (QQ rfl QX) rfl rfl ⟨Int.emod_nonneg _ (by omega), Int.emod_lt_of_pos _ (by omega)⟩
      · exact absurd h3 h'
theorem goBool : InGo Tryz.prog 58 := InGo.of Tryz.func58 rfl (by decide)
theorem BoolB_ok (bs : List Int) (p : Nat) (n : Int) (h1 : 1 ≤ n) (h2 : n ≤ 1000000) (hb : Bytes bs) :
    OkB Tryz.prog 58 78 (codes bs p) [intC n] (fun _ : Bool × Nat => True) (fun q => boolC q.1) (fun q => codes bs q.2) := by
  refine OkB.enter Tryz.func58 rfl _ Tryz.ntmps58 rfl ?_
  intro S w g
  (refine Qw (Qx fun K hK => ?_); refine Qv rfl rfl rfl ?_; refine Qj (hK _ _ (Qz (Qw ?_))); clear hK K; refine Qx (fun K hK => ?_); refine Qq rfl rfl rfl ?_; refine Qq rfl rfl rfl ?_)
  refine Xw goNext (Zi bs p n h1 h2 hb) rfl rfl rfl rfl rfl (fun q hq => ?_)
  obtain ⟨x, p1⟩ := q
  dsimp only at hq ⊢
  (refine Qq rfl rfl rfl ?_; refine Qk (isub (by omega) (by omega)) rfl rfl rfl rfl ?_; refine Qk ieql rfl rfl rfl rfl ?_; refine Qv rfl rfl rfl ?_; refine Qj (hK _ _ (Qz (Q0 ?_))); clear hK K)
  refine Zf (decide (x = n - 1), p1) [_] rfl (QQ rfl QX) rfl rfl trivial
theorem goInt : InGo Tryz.prog 106 := InGo.of Tryz.func106 rfl (by decide)
abbrev adrF (x : Fin 4294967296) : CT := adrC (x.val : Int)
theorem wrap_toFin {n : Int} (h1 : 0 ≤ n) (h2 : n < 4294967296) : IntKind.u32.wrap n = (((⟨n.toNat, by omega⟩ : Fin 4294967296).val : Nat) : Int) := by
  rw [wrap_u32 h1 h2]
  show n = ((n.toNat : Nat) : Int)
  omega
theorem goDProto : InGo Tryz.prog 141 := InGo.of Tryz.func141 rfl (by decide)
set_option maxHeartbeats 4000000 in
theorem DProto_ok (bs : List Int) (p : Nat) (hb : Bytes bs) :
    OkB Tryz.prog 141 78 (codes bs p) [] (fun _ : Int × Nat => True) (fun q => intC q.1) (fun q => codes bs q.2) := by
  refine OkB.enter Tryz.func141 rfl _ Tryz.ntmps141 rfl ?_
  intro S w g
  (refine Qw (Qx fun K hK => ?_); refine Qv rfl rfl rfl ?_; refine Qj (hK _ _ (Qz (Qw ?_))); clear hK K; refine Qx (fun K hK => ?_); refine Qq rfl rfl rfl ?_)
  refine Ops.litI [17, 1, 6] rfl rfl (by with_reducible exact sInts) rfl ⟨rfl, rfl, rfl, rfl, rfl, rfl, trivial⟩ (by decide) rfl ?_
  refine Xw goPick (Pick_ok bs p [17, 1, 6] (by decide) (by decide) hb) rfl rfl rfl rfl rfl (fun q hq => ?_)
  obtain ⟨k, p1⟩ := q
  dsimp only at hq ⊢
  (refine Qv rfl rfl rfl ?_; refine Qj (hK _ _ (Qz (Q0 ?_))); clear hK K)
  refine Zf (k, p1) [_] rfl (QQ rfl QX) rfl rfl trivial
theorem Z4 : LdN Tryz.prog 86 3 := LdN.of _ Tryz.underlying86 rfl (by kernel_rfl)
theorem szTrace : (Tryz.prog.info? 86).map (·.size) = some 3 := by kernel_rfl
theorem zvTrace : (Tryz.prog.info? 86).map (·.zero) = some (some (.agg #[.int .i64 0, .int .u32 0, .int .i64 0])) := by kernel_rfl
theorem bTrace : bInfo Tryz.prog 86 = some (.agg #[.int .i64 0, .int .u32 0, .int .i64 0], [(0, some 1), (1, some 1), (2, some 1)]) := by kernel_rfl
theorem fR0t : fldInfo Tryz.prog 86 0 = some (0, some 1) := by kernel_rfl
theorem fR1t : fldInfo Tryz.prog 86 1 = some (1, some 1) := by kernel_rfl
theorem fR2t : fldInfo Tryz.prog 86 2 = some (2, some 1) := by kernel_rfl
structure Tr where
  va : Int
  ds : Fin 4294967296
  pr : Int
  p : Nat
abbrev trCs (e : Tr) : List CT := [intC e.va, adrF e.ds, intC e.pr]
theorem goTrace : InGo Tryz.prog 107 := InGo.of Tryz.func107 rfl (by decide)
set_option maxHeartbeats 4000000 in
theorem Trace_ok (bs : List Int) (p : Nat) (hb : Bytes bs) : OkB Tryz.prog 107 78 (codes bs p) [] (fun q : Tr => 0 ≤ q.va ∧ q.va < 2) (fun q => .fr (aggT (trCs q))) (fun q => codes bs q.p) := by
  refine OkB.enter Tryz.func107 rfl _ Tryz.ntmps107 rfl ?_
  intro S w g
  (refine Qw (Qx fun K hK => ?_))
  refine Qh 1 rfl rfl (by with_reducible exact zvTrace) rfl rfl rfl ?_
  (refine Qj (hK _ _ (Qz (Qw ?_))); clear hK K; refine Qx (fun K hK => ?_); refine Qq rfl rfl rfl ?_)
  refine Xw goNext (Next_ok bs p 2 (by decide) (by decide) hb) rfl rfl rfl rfl rfl (fun q hq => ?_)
  obtain ⟨k, p1⟩ := q
  dsimp only at hq ⊢
  (refine Qq rfl rfl rfl ?_)
  refine Xw goNext (Next_ok bs p1 3 (by decide) (by decide) hb) rfl rfl rfl rfl rfl (fun q hq2 => ?_)
  obtain ⟨x, p2⟩ := q
  dsimp only at hq2 ⊢
  (refine Qk (iadd (by omega) (by omega)) rfl rfl rfl rfl ?_)
  refine Zg rfl rfl (by with_reducible exact uInt) (by with_reducible exact uAddr) (wrap_toFin (n := 167774464 + x) (by omega) (by omega)) rfl ?_
  generalize (⟨(167774464 + x).toNat, _⟩ : Fin 4294967296) = dd
  (refine Qq rfl rfl rfl ?_)
  refine Xw goDProto (DProto_ok bs p2 hb) rfl rfl rfl rfl rfl (fun q hq3 => ?_)
  obtain ⟨pr, p3⟩ := q
  dsimp only
  skip
  refine Xq rfl (by with_reducible exact bTrace) rfl (.one rfl rfl rfl rfl (.one rfl rfl rfl rfl (.one rfl rfl rfl rfl .nil))) rfl ?_
  refine Qe 3 rfl rfl rfl rfl rfl (by with_reducible exact szTrace) rfl rfl ?_
  (refine Qj (hK _ _ (Qz (Q0 ?_))); clear hK K)
  refine Fin.endB ⟨k, dd, pr, p3⟩ [_] rfl (Qi (n := 3) rfl rfl (by with_reducible exact Z4) rfl QX) rfl rfl ⟨hq.1, hq.2⟩
end Go.Proofs.YtlkdkbdgnjcopaaGreat
namespace Go.Own
open Go.RowKit
variable {X : Ctx} {L : AL} {B : BL} {ops : Array Oper} {K : Act → World → Prop} {r : Pl} {k : Kd}
  {x y z : Operand} {d : Nat} {t t2 t' : TypeId} {pos : String} {af : Array Edge} {g : Option (Nat × Bool)}
theorem zero_flat (zs : Array Value) (n : Nat) : (Builtin.zeroCells zs n).toList = (List.replicate n zs.toList).flatten := made_flat zs n
end Go.Own
namespace Go.Own
open Go.RowKit
variable {X : Ctx} {L : AL} {B : BL} {K : Act → World → Prop}
  {x y z : Operand} {d : Nat} {t t2 t' : TypeId} {pos : String} {af : Array Edge} {g : Option (Nat × Bool)}
inductive Ot where
  | done
  | non
  | p (i : Nat) (r : Ot)
  | f (i : Nat) (r : Ot)
  | a (i : Nat) (r : Ot)
  | br (i : Nat) (r : Ot) (o : Ot)
def wpT (P : Program) (l : List Oper) (bb : BSet) (K : Act → World → Prop) : Ot → Act → World → Prop
  | .done, a, w => K a w
  | .non, _, _ => True
  | .p i r, a, w => ∃ v, Yields P l.toArray (nth l i) v a ∧ wpT P l bb K r (a.put (nth l i).dst v) w
  | .f i r, a, w => ∃ v, YieldsIf P l.toArray (fun w' => Fr bb w w') (nth l i) v a ∧ wpT P l bb K r (a.put (nth l i).dst v) w
  | .a i r, a, w => wpO P l.toArray (fun a' w' => wpT P l bb K r a' w') (nth l i) a w
  | .br i r o, a, w => wpO P l.toArray (fun a' w' => Fr bb w w' ∧ wpT P l bb K r a' w') (nth l i) a w ∧ wpT P l bb K o a w
def alts : Ot → List Nat
  | .br i _ o => i :: alts o
  | _ => []
def waitsT (ops : Array Oper) (N i : Nat) : Bool := (List.range ops.size).all fun j => Nat.blt j N || match ops[j]? with
  | some oj => oj.after.any fun e => Region.binds .any e && (e.on == i || match ops[e.on]? with
    | some ok => ok.after.any fun e' => Region.binds .any e' && e'.on == i
    | none => false)
  | none => true
def chkT (ops : Array Oper) (N : Nat) : Bool → Ot → Nat → Array Bool → Bool
  | true, .done, _, listed => (Region.ready .any ops listed).isEmpty
  | true, .p i r, n + 1, listed => (Region.ready .any ops listed).contains i && Region.free .any ops listed i && chkT ops N true r n (listed.setIfInBounds i true)
  | true, .f i r, n + 1, listed => (Region.ready .any ops listed).contains i && Region.free .any ops listed i && waitsT ops N i && chkT ops N true r n (listed.setIfInBounds i true)
  | true, .a i r, n + 1, listed => Region.ready .any ops listed == [i] && !Nat.blt i N && chkT ops N true r n (listed.setIfInBounds i true)
  | tp, .br i r o, n + 1, listed => (!tp || Region.ready .any ops listed == alts (.br i r o)) && Nat.blt i N && chkT ops N true r n (listed.setIfInBounds i true) && chkT ops N false o (n + 1) listed
  | false, .non, _, _ => true
  | _, _, _, _ => false
def Shut (ops : Array Oper) (listed : Array Bool) : Prop := ∀ k ok, ops[k]? = some ok → listed.getD k false = true → ∀ e ∈ ok.after, Region.binds .any e = true → listed.getD e.on false = true
theorem set_true {listed : Array Bool} {i j : Nat} (h : listed.getD j false = true) : (listed.setIfInBounds i true).getD j false = true := by
  by_cases hij : i = j
  · subst hij; rcases Nat.lt_or_ge i listed.size with h' | h'
    · simp [h']
    · simp [h'] at h
  · rw [getD_set_ne false hij]; exact h
theorem Shut.step {ops : Array Oper} {listed : Array Bool} {i : Nat} (h : Shut ops listed) (hr : i ∈ Region.ready .any ops listed) : Shut ops (listed.setIfInBounds i true) := fun k ok hk hl e he hb => by
  by_cases hik : i = k
  · subst hik
    obtain ⟨_, o, ho, hall⟩ := mem_ready.1 hr
    rw [hk] at ho; injection ho with ho; subst ho
    exact set_true (hall e he hb)
  · rw [getD_set_ne false hik] at hl; exact set_true (h k ok hk hl e he hb)
theorem Shut.start (ops : Array Oper) (n : Nat) : Shut ops (Array.replicate n false) := fun k ok _ hl => by
  rw [Array.getD_eq_getD_getElem?, Array.getElem?_replicate] at hl
  split at hl <;> cases hl
end Go.Own
namespace Go.Own
open Go.RowKit
variable {X : Ctx} {L : AL} {B : BL} {ops : Array Oper} {K : Act → World → Prop} {r : Pl} {k : Kd}
  {x y z : Operand} {d : Nat} {t t2 t' : TypeId} {pos : String} {af : Array Edge} {g : Option (Nat × Bool)}
def Sn (S : BSet) (B : BL) (ρ : Nat → Value) : BSet := fun k => S k ∧ ∀ i e, bget B i = some e → blk (ρ i) ≠ some k
structure Hp (S : BSet) (B : BL) (ρ : Nat → Value) (w : World) : Prop where
  ent : ∀ i e, bget B i = some e → e.ok (Sn S B ρ) w (ρ i)
  apart : ∀ i j e e', bget B i = some e → bget B j = some e' → i ≠ j → ∀ g, blk (ρ i) = some g → blk (ρ j) ≠ some g
def slots (S : BSet) (ρ : Nat → Value) (w : World) : List Sl → List Value → Prop
  | [], [] => True
  | s :: ss, v :: vs => s.p S ρ w v ∧ slots S ρ w ss vs
  | _, _ => False
theorem slots.length {S : BSet} {ρ : Nat → Value} {w : World} : ∀ {ss : List Sl} {vs : List Value}, slots S ρ w ss vs → vs.length = ss.length
  | [], [], _ => rfl
  | _ :: _, _ :: _, ⟨_, b⟩ => by simp [slots.length b]
  | [], _ :: _, h => h.elim
  | _ :: _, [], h => h.elim
def argS : Nat → List Sl → AL
  | _, [] => []
  | i, s :: ss => (i, s) :: argS (i + 1) ss
theorem look_argS {S : BSet} {ρ : Nat → Value} {w : World} : ∀ {ss : List Sl} {vs : List Value} {i d : Nat} {s : Sl}, slots S ρ w ss vs → look (argS i ss) d = some s → ∃ v, i ≤ d ∧ vs[d - i]? = some v ∧ s.p S ρ w v
  | [], [], _, _, _, _, hd => by cases hd
  | s :: ss, v :: vs, i, d, s', ⟨a, b⟩, hd => by
    simp only [argS] at hd
    by_cases h : i = d
    · subst h; rw [XU] at hd; injection hd with hd; subst hd; exact ⟨v, Nat.le_refl _, by simp, a⟩
    · rw [XQ _ _ h] at hd
      obtain ⟨u, h1, h2, h3⟩ := look_argS b hd
      refine ⟨u, by omega, ?_, h3⟩
      obtain ⟨m, hm⟩ : ∃ m, d - i = m + 1 := ⟨d - i - 1, by omega⟩
      rw [hm, List.getElem?_cons_succ, ← h2]; congr 1; omega
  | [], _ :: _, _, _, _, h, _ => h.elim
  | _ :: _, [], _, _, _, h, _ => h.elim
def postM (S : BSet) (w0 : World) (ρ0 : Nat → Value) (B0 : BL) (fx : List Nat) {α : Type} (J : α → Prop) (R : α → Sl) (B1 : α → BL) : Ending → World → Prop := fun e w' =>
  ∃ v q ρ', e = .returned v ∧ J q ∧ (R q).p (Sn S (B1 q) ρ') ρ' w' v ∧ Hp S (B1 q) ρ' w' ∧ (∀ i ∈ fx, isBx (bget (B1 q) i) = true ∧ ρ' i = ρ0 i) ∧
    (∀ i e, bget (B1 q) i = some e → ∀ gb, blk (ρ' i) = some gb → w0.heap.size ≤ gb ∨ ∃ j f, bget B0 j = some f ∧ blk (ρ0 j) = some gb) ∧ Fr (fun k => ∃ j f, bget B0 j = some f ∧ blk (ρ0 j) = some k) w0 w'
def OkM (P : Program) (f : FuncId) (As : List Sl) (B0 : BL) (fx : List Nat) {α : Type} (J : α → Prop) (R : α → Sl) (B1 : α → BL) : Prop :=
  ∀ (S : BSet) (w : World) (ρ : Nat → Value) (vs : List Value), (∀ k, w.heap.size ≤ k → S k) → (∀ i e, bget B0 i = some e → ∀ gb, blk (ρ i) = some gb → S gb) → Hp S B0 ρ w → slots (Sn S B0 ρ) ρ w As vs →
    Calls P f vs.toArray w (postM S w ρ B0 fx J R B1)
abbrev lentM (P : Program) (n : Nat) (S : BSet) (w : World) (B0 : BL) (fx : List Nat) (ρ0 : Nat → Value) : Ctx := { P := P, n := n, S0 := S, w0 := w, bor := fun k => ∃ j f, bget B0 j = some f ∧ blk (ρ0 j) = some k, fix := fx.map fun i => (i, ρ0 i) }
theorem OkM.enter {P : Program} {f : FuncId} {fn : Func} {c : Code} {As : List Sl} {B0 : BL} {fx : List Nat} {α : Type} {J : α → Prop} {R : α → Sl} {B1 : α → BL} (hf : P.funcs[f]? = some fn) (hb : fn.body = some c) (n : Nat) (hn : fn.ntmps = n) (ha : Nat.ble As.length n = true) (hfx : ∀ i ∈ fx, isBx (bget B0 i) = true)
    (h : ∀ S w ρ0, (∀ gb, (lentM P n S w B0 fx ρ0).bor gb → S gb) → St (lentM P n S w B0 fx ρ0) (argS 0 As) B0 c (bodyPost P fn (postM S w ρ0 B0 fx J R B1))) : OkM P f As B0 fx J R B1 := by
  intro S w ρ vs hS hB hH hA; have hl := hA.length; have hle := Nat.le_of_ble_eq_true ha; refine calls_of_wp hf hb (h S w ρ (fun gb ⟨j, f, h1, h2⟩ => hB j f h1 gb h2) _ ρ w ?_); refine ⟨by simp [lentM, hn]; omega, rfl, fun d s hd => ?_, fun i e hi => ⟨hH.ent i e hi, fun gb hgb => .inr ⟨i, e, hi, hgb⟩⟩, hH.apart, ⟨rfl, rfl, rfl, Nat.le_refl _, fun _ _ _ => rfl, Nat.le_refl _⟩, hS, fun p hp => ?_⟩
  · obtain ⟨v, h1, h2, h3⟩ := look_argS hA hd; have hlt : d - 0 < vs.length := (List.getElem?_eq_some_iff.1 h2).1
    have : (vs.toArray ++ Array.replicate (fn.ntmps - vs.toArray.size) undef).getD d undef = v := by
      rw [Array.getD_eq_getD_getElem?, Array.getElem?_append_left (by simp; omega)]; simp only [Nat.sub_zero] at h2; simp [h2]
    rw [this]; exact h3
  · obtain ⟨i, hi, rfl⟩ := List.mem_map.1 hp; exact ⟨hfx i hi, rfl⟩
theorem Is.hp {a : Act} {ρ : Nat → Value} {w : World} (h : Is X L B a ρ w) : Hp X.S0 B ρ w := ⟨fun i e hi => (h.ent i e hi).1, h.apart⟩
section ret
variable {P : Program} {n : Nat} {S : BSet} {w0 : World} {B0 : BL} {fx : List Nat} {ρ0 : Nat → Value} {α : Type} {J : α → Prop} {R : α → Sl} {B1 : α → BL}
theorem Is.postM {a : Act} {ρ : Nat → Value} {w : World} {v : Value} (hI : Is (lentM P n S w0 B0 fx ρ0) L B a ρ w) (q : α) (hB : ∀ j, bget (B1 q) j = bget B j) (hJ : J q) (hv : (R q).p (Sof (lentM P n S w0 B0 fx ρ0) B ρ) ρ w v) : postM S w0 ρ0 B0 fx J R B1 (.returned v) w := by
  have hI' := hI.bext hB
  have e : Sn S (B1 q) ρ = Sof (lentM P n S w0 B0 fx ρ0) B ρ := by
    funext k
    exact propext ⟨fun h => ⟨h.1, fun i e hi => h.2 i e (by rw [hB]; exact hi)⟩, fun h => ⟨h.1, fun i e hi => h.2 i e (by rw [← hB]; exact hi)⟩⟩
  refine ⟨v, q, ρ, rfl, hJ, by rw [e]; exact hv, hI'.hp, fun i hi => ?_, fun i e hi gb hgb => (hI'.ent i e hi).2 gb hgb, hI.frame⟩; have := hI'.fixd (i, ρ0 i) (List.mem_map.2 ⟨i, hi, rfl⟩); exact this
end ret
theorem ZY (A C : BL) (j : Nat) : bget (A ++ C) j = (bget A j).or (bget C j) := by
  induction A with
  | nil => rfl
  | cons p A ih =>
    obtain ⟨i, e⟩ := p; by_cases h : i = j
    · subst h; rw [List.cons_append, Xj, Xj]; rfl
    · rw [List.cons_append, Ql _ _ h, Ql _ _ h, ih]
def evS (L : AL) : List Operand → Option (List Sl)
  | [] => some []
  | x :: xs => match ev L x, evS L xs with
    | some s, some ss => some (s :: ss)
    | _, _ => none
theorem Is.evS {a : Act} {ρ : Nat → Value} {w : World} (h : Is X L B a ρ w) : ∀ {xs : List Operand} {ss : List Sl}, Own.evS L xs = some ss → slots (Sof X B ρ) ρ w ss (xs.map a.eval)
  | [], ss, he => by simp only [Own.evS] at he; injection he with he; subst he; trivial
  | x :: xs, ss, he => by
    simp only [Own.evS] at he
    split at he
    · rename_i c cs' h1 h2
      injection he with he; subst he
      exact ⟨h.ev h1, h.evS h2⟩
    · cases he
def Sl.keepN (kp : Nat → Bool) : Sl → Sl
  | .own j => if kp j then .own j else .any
  | .loc j o => if kp j then .loc j o else .any
  | s => s
def keepL (kp : Nat → Bool) : AL → AL
  | [] => []
  | (d, s) :: L => (d, s.keepN kp) :: keepL kp L
theorem look_keepL (kp : Nat → Bool) (L : AL) (d : Nat) : look (keepL kp L) d = (look L d).map (Sl.keepN kp) := by
  induction L with
  | nil => rfl
  | cons x L ih =>
    obtain ⟨k, s⟩ := x; by_cases hk : k = d
    · subst hk; simp [keepL, look]
    · simp only [keepL]; rw [XQ _ _ hk, XQ _ _ hk, ih]
def someB (o : Option Ent) : Bool := o.isSome
set_option maxHeartbeats 1000000 in
theorem Is.afterM {a : Act} {ρ : Nat → Value} {w : World} (hI : Is X L B a ρ w) {B0 C : BL} {fx : List Nat} {α : Type} {R : α → Sl} {B1 : α → BL} (kp : Nat → Bool) (hB : ∀ j, bget B j = bget (B0 ++ C) j) (hC : ∀ j, (bget C j).isSome = true → bget B0 j = none)
    {S : BSet} (hSdef : S = fun k => X.S0 k ∧ ∀ i e, bget C i = some e → blk (ρ i) ≠ some k) {q : α} (hC1 : ∀ j, (bget C j).isSome = true → bget (B1 q) j = none) (hkp : ∀ j, kp j = true → j ∈ fx ∨ bget (B1 q) j = none) (hfix : ∀ p ∈ X.fix, (bget C p.1).isSome = true ∨ p.1 ∈ fx)
    {v : Value} {ρ' : Nat → Value} {w' : World} (hv : (R q).p (Sn S (B1 q) ρ') ρ' w' v) (hH : Hp S (B1 q) ρ' w') (hfx : ∀ i ∈ fx, isBx (bget (B1 q) i) = true ∧ ρ' i = ρ i)
    (hnew : ∀ i e, bget (B1 q) i = some e → ∀ gb, blk (ρ' i) = some gb → w.heap.size ≤ gb ∨ ∃ j f, bget B0 j = some f ∧ blk (ρ j) = some gb) (hF : Fr (fun k => ∃ j f, bget B0 j = some f ∧ blk (ρ j) = some k) w w') (hRk : ∀ j, (R q = .own j ∨ ∃ o, R q = .loc j o) → (bget (B1 q) j).isSome = true) :
    Is X (keepL kp L) (B1 q ++ C) a (fun j => if (bget (B1 q) j).isSome then ρ' j else ρ j) w' ∧ (R q).p (Sof X (B1 q ++ C) (fun j => if (bget (B1 q) j).isSome then ρ' j else ρ j)) (fun j => if (bget (B1 q) j).isSome then ρ' j else ρ j) w' v := by
  have c0 : ∀ j e, bget B0 j = some e → bget B j = some e := fun j e h => by rw [hB, ZY, h]; rfl
  have cC : ∀ j e, bget C j = some e → bget B j = some e := fun j e h => by rw [hB, ZY, hC j (by rw [h]; rfl), h]; rfl
  have split : ∀ j e, bget (B1 q ++ C) j = some e → (bget (B1 q) j = some e) ∨ (bget (B1 q) j = none ∧ bget C j = some e) := fun j e h => by
    rw [ZY] at h
    cases h1 : bget (B1 q) j with
    | none => rw [h1] at h; exact .inr ⟨rfl, h⟩
    | some e1 => rw [h1] at h; exact .inl h
  have r1 : ∀ j e, bget (B1 q) j = some e → (if (bget (B1 q) j).isSome then ρ' j else ρ j) = ρ' j := fun j e h => by rw [h]; rfl
  have r2 : ∀ j, bget (B1 q) j = none → (if (bget (B1 q) j).isSome then ρ' j else ρ j) = ρ j := fun j h => by rw [h]; rfl
  have hSof : Sof X (B1 q ++ C) (fun j => if (bget (B1 q) j).isSome then ρ' j else ρ j) = Sn S (B1 q) ρ' := by
    funext k
    refine propext ⟨fun h => ⟨?_, fun i e hi => ?_⟩, fun h => ⟨?_, fun i e hi => ?_⟩⟩
    · rw [hSdef]; refine ⟨h.1, fun i e hi => ?_⟩; have hn := hC1 i (by rw [hi]; rfl); have := h.2 i e (by rw [ZY, hn]; exact hi); simp only [r2 i hn] at this; exact this
    · have := h.2 i e (by rw [ZY, hi]; rfl); simp only [r1 i e hi] at this; exact this
    · have := h.1; rw [hSdef] at this; exact this.1
    · rcases split i e hi with h1 | ⟨h1, h2⟩
      · simp only [r1 i e h1]; exact h.2 i e h1
      · simp only [r2 i h1]; have := h.1; rw [hSdef] at this; exact this.2 i e h2
  have hKp : Kp (Sof X B ρ) (Sn S (B1 q) ρ') w w' := ⟨hF.size, fun k hk hs => by
    have hn0 : ¬ ∃ j f, bget B0 j = some f ∧ blk (ρ j) = some k := fun ⟨j, f, h1, h2⟩ => hs.2 j f (c0 j f h1) h2
    refine ⟨⟨?_, fun i e hi hbk => ?_⟩, hF.block k hk hn0⟩
    · rw [hSdef]; exact ⟨hs.1, fun i e hi => hs.2 i e (cC i e hi)⟩
    · rcases hnew i e hi k hbk with h1 | h1
      · omega
      · exact hn0 h1⟩
  have hCk : ∀ j e, bget C j = some e → ∀ gb, blk (ρ j) = some gb → gb < w.heap.size ∧ (¬ ∃ i f, bget B0 i = some f ∧ blk (ρ i) = some gb) := fun j e hj gb hgb => by
    refine ⟨hI.lt (cC j e hj) hgb, fun ⟨i, f, h1, h2⟩ => ?_⟩
    have hij : i ≠ j := fun he => by subst he; rw [hC i (by rw [hj]; rfl)] at h1; cases h1
    exact hI.apart i j f e (c0 i f h1) (cC j e hj) hij gb h2 hgb
  refine ⟨⟨hI.size, hI.defers, fun d s hd => ?_, fun i e hi => ?_, fun i j e e' hi hj hij gb hgb => ?_, ⟨hF.os.trans hI.frame.os, hF.tape.trans hI.frame.tape, hF.output.trans hI.frame.output, Nat.le_trans hI.frame.size hF.size, fun k hk hn => ?_, Nat.le_trans hI.frame.drawn hF.drawn⟩, hI.fresh, fun p hp => ?_⟩, ?_⟩
  · rw [look_keepL] at hd
    cases h1 : look L d with
    | none => rw [h1] at hd; cases hd
    | some s0 =>
      rw [h1] at hd
      injection hd with hd
      subst hd; have h2 := hI.slot d s0 h1; rw [hSof]
      have kept : ∀ j, kp j = true → (if (bget (B1 q) j).isSome then ρ' j else ρ j) = ρ j := fun j hj => by
        rcases hkp j hj with h3 | h3
        · have := (hfx j h3).2; split
          · exact this
          · rfl
        · exact r2 j h3
      cases s0 with
      | ct c => exact CT.mono hKp h2
      | any => trivial
      | own j =>
        simp only [Sl.keepN]; split
        · rename_i hj
          show _ = (if (bget (B1 q) j).isSome then ρ' j else ρ j); rw [kept j hj]; exact h2
        · trivial
      | loc j o =>
        simp only [Sl.keepN]; split
        · rename_i hj
          obtain ⟨gb, h3, h4⟩ := h2; exact ⟨gb, by simp only [kept j hj]; exact h3, h4⟩
        · trivial
  · rw [hSof]; rcases split i e hi with h1 | ⟨h1, h2⟩
    · simp only [r1 i e h1]; refine ⟨hH.ent i e h1, fun gb hgb => ?_⟩; rcases hnew i e h1 gb hgb with h3 | ⟨j, f, h3, h4⟩
      · exact .inl (Nat.le_trans hI.frame.size h3)
      · exact (hI.ent j f (c0 j f h3)).2 gb h4
    · simp only [r2 i h1]; have h3 := hI.ent i e (cC i e h2); refine ⟨Ent.keep hKp (fun gb hgb hlt => hF.block gb hlt (hCk i e h2 gb hgb).2) h3.1, h3.2⟩
  · rcases split i e hi with h1 | ⟨h1, h2⟩ <;> rcases split j e' hj with h3 | ⟨h3, h4⟩
    · simp only [r1 i e h1] at hgb; simp only [r1 j e' h3]; exact hH.apart i j e e' h1 h3 hij gb hgb
    · simp only [r1 i e h1] at hgb; simp only [r2 j h3]; intro hgj; have := hCk j e' h4 gb hgj; rcases hnew i e h1 gb hgb with h5 | h5
      · omega
      · exact this.2 h5
    · simp only [r2 i h1] at hgb; simp only [r1 j e' h3]; intro hgj; have := hCk i e h2 gb hgb; rcases hnew j e' h3 gb hgj with h5 | h5
      · omega
      · exact this.2 h5
    · simp only [r2 i h1] at hgb; simp only [r2 j h3]; exact hI.apart i j e e' (cC i e h2) (cC j e' h4) hij gb hgb
  · have hn0 : ¬ ∃ j f, bget B0 j = some f ∧ blk (ρ j) = some k := fun ⟨j, f, h1, h2⟩ => by
      rcases (hI.ent j f (c0 j f h1)).2 k h2 with h3 | h3
      · omega
      · exact hn h3
    rw [hF.block k (Nat.lt_of_lt_of_le hk hI.frame.size) hn0]; exact hI.frame.block k hk hn
  · have h0 := hI.fixd p hp; rcases hfix p hp with h1 | h1
    · have hn := hC1 p.1 h1; refine ⟨?_, ?_⟩
      · rw [ZY, hn]
        have h2 : bget B p.1 = bget C p.1 := by
          cases h3 : bget C p.1 with
          | none => rw [h3] at h1; cases h1
          | some e => exact cC _ _ h3
        rw [← h2]; exact h0.1
      · simp only [r2 p.1 hn]; exact h0.2
    · have h2 := hfx p.1 h1
      have h3 : ∃ e, bget (B1 q) p.1 = some e := by
        cases h4 : bget (B1 q) p.1 with
        | none => rw [h4] at h2; exact absurd h2.1 (by simp [isBx])
        | some e => exact ⟨e, rfl⟩
      obtain ⟨e, h3⟩ := h3; refine ⟨?_, ?_⟩
      · have : bget (B1 q ++ C) p.1 = bget (B1 q) p.1 := by rw [ZY, h3]; rfl
        rw [this]; exact h2.1
      · simp only [r1 p.1 e h3]; rw [h2.2]; exact h0.2
  · rw [hSof]
    cases h : R q with
    | ct c => rw [h] at hv; exact hv
    | any => trivial
    | own j =>
      rw [h] at hv; obtain ⟨e, he⟩ := Option.isSome_iff_exists.1 (hRk j (.inl h)); show v = _; simp only [r1 j e he]; exact hv
    | loc j o =>
      rw [h] at hv; obtain ⟨e, he⟩ := Option.isSome_iff_exists.1 (hRk j (.inr ⟨o, h⟩)); obtain ⟨gb, h3, h4⟩ := hv; exact ⟨gb, by simp only [r1 j e he]; exact h3, h4⟩
theorem Ops.callM {f : FuncId} {args : List Operand} {tys : Array TypeId} {As : List Sl} {B0 : BL} {fx : List Nat} {α : Type} {J : α → Prop} {R : α → Sl} {B1 : α → BL} (C : BL) (kp : Nat → Bool) (hgo : InGo X.P f) (hok : OkM X.P f As B0 fx J R B1) (hg : gd ops L g = some true) (hargs : evS L args = some As) (hn : Nat.blt d X.n = true)
    (hbor : ∀ gb, X.bor gb → X.S0 gb) (hB : ∀ j, bget B j = bget (B0 ++ C) j) (hC : ∀ j, (bget C j).isSome = true → bget B0 j = none ∧ ∀ q, bget (B1 q) j = none) (hkp : ∀ j, kp j = true → j ∈ fx ∨ ∀ q, bget (B1 q) j = none) (hfix : ∀ p ∈ X.fix, (bget C p.1).isSome = true ∨ p.1 ∈ fx)
    (hRk : ∀ q j, (R q = .own j ∨ ∃ o, R q = .loc j o) → (bget (B1 q) j).isSome = true)
    (h : ∀ q, J q → Ops X ops r ((d, R q) :: keepL kp L) (B1 q ++ C) K) : Ops X ops (.cons ⟨some d, .call { callee := .value (.func f), args := args.toArray, argTypes := tys }, t, pos, af, g⟩ .any r) L B K := fun a ρ w hI => by
  show wpO _ _ _ _ _ _
  unfold wpO
  rw [if_pos (Zv (o := ⟨some d, _, t, pos, af, g⟩) hI hg)]
  unfold Oper.wp
  have hrun : (execOp a.eval ⟨some d, .call { callee := .value (.func f), args := args.toArray, argTypes := tys }, t, pos, af, g⟩).run X.P w = .ok (.enter f (args.map a.eval).toArray) w := by
    show (do let D ← resolve a.eval { callee := .value (.func f), args := args.toArray, argTypes := tys } t; invoke D.target D.args : Sem Next).run X.P w = _; have hf : a.eval (.func f) = .func (.func f) #[] #[] := rfl; simp only [resolve, hf, Deferred.ofValue, Sem.run_bind, Sem.run_pure, Result.andThen_ok, invoke]; rw [hgo]
    congr 2
    simp
  rw [hrun]
  have c0 : ∀ j e, bget B0 j = some e → bget B j = some e := fun j e h => by rw [hB, ZY, h]; rfl
  have cC : ∀ j e, bget C j = some e → bget B j = some e := fun j e h => by rw [hB, ZY, (hC j (by rw [h]; rfl)).1, h]; rfl
  have hS0 : ∀ j e, bget B j = some e → ∀ gb, blk (ρ j) = some gb → X.S0 gb := fun j e hj gb hgb => by
    rcases (hI.ent j e hj).2 gb hgb with h1 | h1
    · exact hI.fresh gb h1
    · exact hbor gb h1
  have hSn : Sn (fun k => X.S0 k ∧ ∀ i e, bget C i = some e → blk (ρ i) ≠ some k) B0 ρ = Sof X B ρ := by
    funext k
    refine propext ⟨fun h => ⟨h.1.1, fun i e hi => ?_⟩, fun h => ⟨⟨h.1, fun i e hi => h.2 i e (cC i e hi)⟩, fun i e hi => h.2 i e (c0 i e hi)⟩⟩; rw [hB, ZY] at hi
    cases h1 : bget B0 i with
    | none => rw [h1] at hi; exact h.1.2 i e hi
    | some e1 => rw [h1] at hi; exact h.2 i e (by rw [h1]; exact hi)
  refine Calls.mono (hok (fun k => X.S0 k ∧ ∀ i e, bget C i = some e → blk (ρ i) ≠ some k) w ρ _ (fun k hk => ⟨hI.fresh k (Nat.le_trans hI.frame.size hk), fun i e hi hbk => ?_⟩) (fun i e hi gb hgb => ⟨hS0 i e (c0 i e hi) gb hgb, fun j f hj hbk => ?_⟩) ⟨fun i e hi => ?_, fun i j e e' hi hj => hI.apart i j e e' (c0 i e hi) (c0 j e' hj)⟩ (by rw [hSn]; exact hI.evS hargs)) ?_
  · have := hI.lt (cC i e hi) hbk; omega
  · have hij : i ≠ j := fun he => by subst he; rw [(hC i (by rw [hj]; rfl)).1] at hi; cases hi
    exact hI.apart i j e f (c0 i e hi) (cC j f hj) hij gb hgb hbk
  · rw [hSn]; exact (hI.ent i e (c0 i e hi)).1
  · rintro e w' ⟨v, q, ρ', rfl, hJ, hv, hH, hfx, hnew, hF⟩
    have := hI.afterM kp hB (fun j hj => (hC j hj).1) Y (fun j hj => (hC j hj).2 q) (fun j hj => (hkp j hj).imp id (fun h => h q)) hfix hv hH hfx hnew hF (hRk q); exact h q hJ _ _ w' (this.1.put (s := R q) (X8 hn) this.2)
end Go.Own
namespace Go.Own
open Go.RowKit
def wpAnyL (P : Program) (ops : Array Oper) (K : Act → World → Prop) (late : List Nat) : Nat → Array Bool → Act → World → Prop
  | 0, listed, a, w => Region.ready .any ops listed = [] ∧ K a w
  | fuel + 1, listed, a, w => (Region.ready .any ops listed = [] → K a w) ∧
      ∀ i ∈ Region.ready .any ops listed, wpOp P ops (only K) i (fun a' w' => (late.contains i = false → Below w.heap.size w w') ∧ wpAnyL P ops K late fuel (listed.setIfInBounds i true) a' w') a w
theorem wpAny_of_L {P : Program} {ops : Array Oper} {K : Act → World → Prop} {late : List Nat} : ∀ (fuel : Nat) (listed : Array Bool) (a : Act) (w : World), wpAnyL P ops K late fuel listed a w → wpAny P .any ops (only K) fuel listed a w
  | 0, _, _, _, h => h
  | fuel + 1, _, _, _, h => ⟨h.1, fun i hi => wpOp_mono (fun a' w' h' => wpAny_of_L fuel _ a' w' h'.2) (h.2 i hi)⟩
def needs (ops : Array Oper) (i : Nat) : Nat → Nat → Bool
  | 0, _ => false
  | n + 1, j => match ops[j]? with
    | some oj => oj.after.any fun e => Region.binds .any e && (e.on == i || needs ops i n e.on)
    | none => false
def waitsL (ops : Array Oper) (late : List Nat) (listed : Array Bool) (i : Nat) : Bool := late.all fun j => listed.getD j true || needs ops i ops.size j
theorem needs_spec {ops : Array Oper} {i : Nat} {listed : Array Bool} (hs : Shut ops listed) : ∀ (n j : Nat), needs ops i n j = true → (∀ oj, ops[j]? = some oj → ∀ e ∈ oj.after, Region.binds .any e = true → listed.getD e.on false = true) → listed.getD i false = true
  | 0, _, h, _ => by cases h
  | n + 1, j, h, hj => by
    simp only [needs] at h
    cases ho : ops[j]? with
    | none => rw [ho] at h; cases h
    | some oj =>
      rw [ho] at h
      obtain ⟨e, he, hb⟩ := Array.any_eq_true'.1 h
      simp only [Bool.and_eq_true, Bool.or_eq_true, beq_iff_eq] at hb
      have hl := hj oj ho e he hb.1
      rcases hb.2 with h2 | h2
      · rw [← h2]; exact hl
      · exact needs_spec hs n e.on h2 (fun ok hk e' he' hb' => hs e.on ok hk hl e' he' hb')
theorem waitsL_spec {ops : Array Oper} {late : List Nat} {listed0 listed : Array Bool} {i : Nat} (h : waitsL ops late listed0 i = true) (hm : ∀ j, listed0.getD j true = true → listed.getD j true = true) (hs : Shut ops listed) (hi : listed.getD i false = false) {j : Nat} (hj : j ∈ Region.ready .any ops listed) : late.contains j = false := by
  cases hl : late.contains j with
  | false => rfl
  | true =>
    exfalso; obtain ⟨hun, oj, hoj, hall⟩ := mem_ready.1 hj; simp only [waitsL, List.all_eq_true] at h; have h1 := h j (by simpa using hl); rw [Bool.or_eq_true] at h1; rcases h1 with h1 | h1
    · rw [hm j h1] at hun; cases hun
    · have := needs_spec hs _ j h1 (fun ok hk e he hb => by rw [hoj] at hk; injection hk with hk; subst hk; exact hall e he hb); rw [this] at hi; cases hi
theorem getD_mono {listed : Array Bool} {i j : Nat} (h : listed.getD j true = true) : (listed.setIfInBounds i true).getD j true = true := by
  by_cases hij : i = j
  · subst hij; rcases Nat.lt_or_ge i listed.size with h' | h'
    · simp [h']
    · simp [h']
  · rw [getD_set_ne true hij]; exact h
theorem wpAnyL_first {P : Program} {ops : Array Oper} {K : Act → World → Prop} {late : List Nat} {i : Nat} {oi : Oper} {v : Value} {listed0 : Array Bool} (hi : ops[i]? = some oi)
    (hsel : ∀ (j : Nat) (o : Oper) cs b, ops[j]? = some o → o.op ≠ .select cs b) (htail : waitsL ops late listed0 i = true) :
    ∀ (fuel : Nat) (listed : Array Bool) (a : Act) (w : World), Shut ops listed → (∀ j, listed0.getD j true = true → listed.getD j true = true) →
      (∀ j oj, ops[j]? = some oj → j ≠ i → listed.getD j true = false → (∀ e ∈ oj.after, Region.binds .any e = true → e.on ≠ i) → oi.apart ops oj = true) →
      i ∈ Region.ready .any ops listed → YieldsIf P ops (fun x => Below w.heap.size w x) oi v a →
      wpAnyL P ops K late fuel (listed.setIfInBounds i true) (a.put oi.dst v) w → wpAnyL P ops K late (fuel + 1) listed a w := by
  intro fuel
  induction fuel with
  | zero =>
    intro listed a w _ _ _ hr hy H; refine ⟨fun h => (by rw [h] at hr; cases hr), fun j hj => ?_⟩; by_cases hji : j = i
    · subst hji; exact hy.wpOp hi (Below.refl _ _) ⟨fun _ => Below.refl _ _, H⟩
    · have := ready_mono hj hji; rw [H.1] at this; cases this
  | succ fuel ih =>
    intro listed a w hsh hm hfree hr hy H; refine ⟨fun h => (by rw [h] at hr; cases hr), fun j hj => ?_⟩; by_cases hji : j = i
    · subst hji; exact hy.wpOp hi (Below.refl _ _) ⟨fun _ => Below.refl _ _, H⟩
    · have h1 := H.2 j (ready_mono hj hji); obtain ⟨hjun, oj, hoj, hall⟩ := mem_ready.1 hj
      have hun : listed.getD i false = false := by
        have h0 := (mem_ready.1 hr).1; rcases Nat.lt_or_ge i listed.size with h' | h'
        · simpa [h'] using h0
        · simp [h'] at h0
      have hnot : ∀ e ∈ oj.after, Region.binds .any e = true → e.on ≠ i := fun e he hb heq => by
        have h1 := hall e he hb; rw [heq, hun] at h1; cases h1
      have hjN : late.contains j = false := waitsL_spec htail hm hsh hun hj; have h2 := wpOp_putIf hoj (hfree j oj hoj hji hjun hnot) (fun cs b => hsel i oi cs b hi) (fun cs b => hsel j oj cs b hoj) (fun _ _ _ h => h.elim) hy h1
      have hfree' : ∀ k ok, ops[k]? = some ok → k ≠ i → (listed.setIfInBounds j true).getD k true = false →
          (∀ e ∈ ok.after, Region.binds .any e = true → e.on ≠ i) → oi.apart ops ok = true := fun k ok hk hki hun hno => by
        refine hfree k ok hk hki ?_ hno
        by_cases hjk : j = k
        · subst hjk; exact hjun
        · rw [getD_set_ne true hjk] at hun; exact hun
      refine wpOp_mono (fun a' w' h3 => ⟨h3.2.1, ih (listed.setIfInBounds j true) a' w' (hsh.step hj) (fun q hq => getD_mono (hm q hq)) hfree' (ready_mono hr (Ne.symm hji)) (yields_later h3.1 (h3.2.1 hjN)) ?_⟩) h2; rw [Array.setIfInBounds_comm _ _ hji]; exact h3.2.2
theorem wpAnyL_firstP {P : Program} {ops : Array Oper} {K : Act → World → Prop} {late : List Nat} {i : Nat} {oi : Oper} {v : Value} (hi : ops[i]? = some oi)
    (hsel : ∀ (j : Nat) (o : Oper) cs b, ops[j]? = some o → o.op ≠ .select cs b) :
    ∀ (fuel : Nat) (listed : Array Bool) (a : Act) (w : World),
      (∀ j oj, ops[j]? = some oj → j ≠ i → listed.getD j true = false → (∀ e ∈ oj.after, Region.binds .any e = true → e.on ≠ i) → oi.apart ops oj = true) →
      i ∈ Region.ready .any ops listed → Yields P ops oi v a →
      wpAnyL P ops K late fuel (listed.setIfInBounds i true) (a.put oi.dst v) w → wpAnyL P ops K late (fuel + 1) listed a w := by
  intro fuel
  induction fuel with
  | zero =>
    intro listed a w _ hr hy H; refine ⟨fun h => (by rw [h] at hr; cases hr), fun j hj => ?_⟩; by_cases hji : j = i
    · subst hji; exact hy.wpOp hi ⟨fun _ => Below.refl _ _, H⟩
    · have := ready_mono hj hji; rw [H.1] at this; cases this
  | succ fuel ih =>
    intro listed a w hfree hr hy H; refine ⟨fun h => (by rw [h] at hr; cases hr), fun j hj => ?_⟩; by_cases hji : j = i
    · subst hji; exact hy.wpOp hi ⟨fun _ => Below.refl _ _, H⟩
    · have h1 := H.2 j (ready_mono hj hji); obtain ⟨hjun, oj, hoj, hall⟩ := mem_ready.1 hj
      have hnot : ∀ e ∈ oj.after, Region.binds .any e = true → e.on ≠ i := fun e he hb heq => by
        have h1 := hall e he hb; have h0 := (mem_ready.1 hr).1; rw [heq] at h1; rcases Nat.lt_or_ge i listed.size with h' | h'
        · simp [h'] at h0 h1; rw [h0] at h1; cases h1
        · simp [Array.getElem?_eq_none h'] at h1
      have h2 := wpOp_put hoj (hfree j oj hoj hji hjun hnot) (fun cs b => hsel i oi cs b hi) (fun cs b => hsel j oj cs b hoj) (fun _ _ _ h => h.elim) hy h1
      have hfree' : ∀ k ok, ops[k]? = some ok → k ≠ i → (listed.setIfInBounds j true).getD k true = false →
          (∀ e ∈ ok.after, Region.binds .any e = true → e.on ≠ i) → oi.apart ops ok = true := fun k ok hk hki hun hno => by
        refine hfree k ok hk hki ?_ hno
        by_cases hjk : j = k
        · subst hjk; exact hjun
        · rw [getD_set_ne true hjk] at hun; exact hun
      refine wpOp_mono (fun a' w' h3 => ⟨h3.2.1, ih (listed.setIfInBounds j true) a' w' hfree' (ready_mono hr (Ne.symm hji)) h3.1 ?_⟩) h2; rw [Array.setIfInBounds_comm _ _ hji]; exact h3.2.2
def chkL (ops : Array Oper) (late : List Nat) : Od → Nat → Array Bool → Bool
  | .done, _, listed => (Region.ready .any ops listed).isEmpty
  | _, 0, _ => false
  | .p i r, n + 1, listed => (Region.ready .any ops listed).contains i && Region.free .any ops listed i && chkL ops late r n (listed.setIfInBounds i true)
  | .f i r, n + 1, listed => (Region.ready .any ops listed).contains i && Region.free .any ops listed i && waitsL ops late listed i && chkL ops late r n (listed.setIfInBounds i true)
  | .m i r, n + 1, listed => Region.ready .any ops listed == [i] && !late.contains i && chkL ops late r n (listed.setIfInBounds i true)
  | .a i r, n + 1, listed => Region.ready .any ops listed == [i] && late.contains i && chkL ops late r n (listed.setIfInBounds i true)
  | .fork i r j s, n + 1, listed => Region.ready .any ops listed == [i, j] && !late.contains i && !late.contains j && chkL ops late r n (listed.setIfInBounds i true) && chkL ops late s n (listed.setIfInBounds j true)
variable {X : Ctx} {L : AL} {B : BL}
end Go.Own
namespace Go.Own
open Go.RowKit
variable {X : Ctx} {L : AL} {B : BL} {ops : Array Oper} {K : Act → World → Prop} {r : Pl} {k : Kd}
  {x y z : Operand} {d : Nat} {t t2 t' : TypeId} {pos : String} {af : Array Edge} {g : Option (Nat × Bool)}
theorem ZV {c y : Code} {Q : Exit → Act → World → Prop} {α : Type} (J : α → Prop) (Lx : α → AL) (Bx : α → BL) (h1 : ∀ q, J q → St X (Lx q) (Bx q) y Q)
    (h2 : ∀ K : Exit → Act → World → Prop, (∀ q, J q → Fin X (Lx q) (Bx q) (fun a w => K .normal a w)) → St X L B c K) : St X L B c (Exit.then (y.wp X.P Q) Q) :=
  h2 _ (fun q hq => h1 q hq)
theorem Fin.nameS (dd i m : Nat) {el n : Nat} {cs : List CT} (hd : look L dd = some (.own i)) (hi : bget B i = some (.row el n cs)) (hl : cs.length = m * n) (hm : 0 < m) (hp : 0 < n)
    (h : ∀ gb c, m ≤ c → c ≤ maxLen → Fin X ((dd, .ct (.ex (.slice (some ⟨gb, 0, none⟩) m c))) :: L) (bset B i (.rowx (.slice (some ⟨gb, 0, none⟩) m c) el n cs)) K) : Fin X L B K := fun a ρ w hI => by
  have h1 : a.tmps.getD dd undef = ρ i := hI.slot dd _ hd
  obtain ⟨n', vs, how, hc⟩ := (hI.ent i _ hi).1
  have hl' := hc.length
  rw [how.1, hl] at hl'
  have hnm : n' = m := Nat.eq_of_mul_eq_mul_right hp hl'
  subst hnm
  rcases how.2 with ⟨h2, h3⟩ | ⟨gb, cap, cur, h2, h3, h4, h5, h6⟩
  · omega
  · have hx : (Ent.rowx (.slice (some ⟨gb, 0, none⟩) n' cap) el n cs).ok (Sof X B ρ) w (ρ i) := ⟨h2, n', vs, how, hc⟩
    refine h gb cap (by omega) ?_ a ρ w ((hI.retype (e' := .rowx (.slice (some ⟨gb, 0, none⟩) n' cap) el n cs) hi hx rfl).slotx (s := .ct (.ex _)) (h1.trans h2))
    omega
end Go.Own
namespace Go.Own
open Go.RowKit
inductive Oq where
  | done
  | non
  | p (i : Nat) (r : Oq)
  | f (i : Nat) (r : Oq)
  | m (i : Nat) (r o : Oq)
  | a (i : Nat) (r o : Oq)
def wpQ (P : Program) (l : List Oper) (K : Act → World → Prop) : Oq → Act → World → Prop
  | .done, a, w => K a w
  | .non, _, _ => True
  | .p i r, a, w => ∃ v, Yields P l.toArray (nth l i) v a ∧ wpQ P l K r (a.put (nth l i).dst v) w
  | .f i r, a, w => ∃ v, YieldsIf P l.toArray (fun w' => Below w.heap.size w w') (nth l i) v a ∧ wpQ P l K r (a.put (nth l i).dst v) w
  | .m i r o, a, w => wpO P l.toArray (fun a' w' => Below w.heap.size w w' ∧ wpQ P l K r a' w') (nth l i) a w ∧ wpQ P l K o a w
  | .a i r o, a, w => wpO P l.toArray (fun a' w' => wpQ P l K r a' w') (nth l i) a w ∧ wpQ P l K o a w
def altsQ : Oq → List Nat
  | .m i _ o => i :: altsQ o
  | .a i _ o => i :: altsQ o
  | _ => []
def chkQ (ops : Array Oper) (late : List Nat) : Bool → Oq → Nat → Array Bool → Bool
  | true, .done, _, listed => (Region.ready .any ops listed).isEmpty
  | true, .p i r, n + 1, listed => (Region.ready .any ops listed).contains i && Region.free .any ops listed i && chkQ ops late true r n (listed.setIfInBounds i true)
  | true, .f i r, n + 1, listed => (Region.ready .any ops listed).contains i && Region.free .any ops listed i && waitsL ops late listed i && chkQ ops late true r n (listed.setIfInBounds i true)
  | tp, .m i r o, n + 1, listed => (!tp || Region.ready .any ops listed == altsQ (.m i r o)) && !late.contains i && chkQ ops late true r n (listed.setIfInBounds i true) && chkQ ops late false o (n + 1) listed
  | tp, .a i r o, n + 1, listed => (!tp || Region.ready .any ops listed == altsQ (.a i r o)) && late.contains i && chkQ ops late true r n (listed.setIfInBounds i true) && chkQ ops late false o (n + 1) listed
  | false, .non, _, _ => true
  | _, _, _, _ => false
theorem anyL_ofQ {P : Program} {l : List Oper} {K : Act → World → Prop} {late : List Nat} (hs : Region.noSelect l.toArray = true) :
    ∀ (ord : Oq) (fuel : Nat) (listed : Array Bool) (a : Act) (w : World), Shut l.toArray listed →
      (chkQ l.toArray late true ord fuel listed = true → wpQ P l K ord a w → wpAnyL P l.toArray K late fuel listed a w) ∧
      (∀ f, fuel = f + 1 → chkQ l.toArray late false ord fuel listed = true → wpQ P l K ord a w → ∀ j ∈ altsQ ord, j ∈ Region.ready .any l.toArray listed → wpOp P l.toArray (only K) j (fun a' w' => (late.contains j = false → Below w.heap.size w w') ∧ wpAnyL P l.toArray K late f (listed.setIfInBounds j true) a' w') a w) := by
  have hidx : ∀ {listed : Array Bool} {i : Nat}, i ∈ Region.ready .any l.toArray listed → l.toArray[i]? = some (nth l i) := fun h => nth_eq (by simpa using ready_lt h)
  intro ord
  induction ord with
  | done =>
    intro fuel listed a w _; refine ⟨fun hc h => ?_, fun f hf hc h j hj => by cases hj⟩
    have hr : Region.ready .any l.toArray listed = [] := by
      cases fuel <;> simpa [chkQ] using hc
    cases fuel with
    | zero => exact ⟨hr, h⟩
    | succ f => exact ⟨fun _ => h, by rw [hr]; simp⟩
  | non => intro fuel listed a w _; exact ⟨fun hc h => by simp [chkQ] at hc, fun f hf hc h j hj => by cases hj⟩
  | p i r ih =>
    intro fuel listed a w hsh; refine ⟨fun hc h => ?_, fun f hf hc h j hj => by cases hj⟩
    cases fuel with
    | zero => simp [chkQ] at hc
    | succ f =>
      simp only [chkQ, Bool.and_eq_true] at hc; obtain ⟨⟨hr, hfr⟩, hc2⟩ := hc
      have hr' : i ∈ Region.ready .any l.toArray listed := by simpa using hr
      obtain ⟨v, hy, h⟩ := h; exact wpAnyL_firstP (hidx hr') (Region.noSelect_spec hs) f listed a w (Region.free_spec (hidx hr') hfr) hr' hy ((ih f _ _ _ (hsh.step hr')).1 hc2 h)
  | f i r ih =>
    intro fuel listed a w hsh; refine ⟨fun hc h => ?_, fun f hf hc h j hj => by cases hj⟩
    cases fuel with
    | zero => simp [chkQ] at hc
    | succ f =>
      simp only [chkQ, Bool.and_eq_true] at hc; obtain ⟨⟨⟨hr, hfr⟩, hw⟩, hc2⟩ := hc
      have hr' : i ∈ Region.ready .any l.toArray listed := by simpa using hr
      obtain ⟨v, hy, h⟩ := h; exact wpAnyL_first (hidx hr') (Region.noSelect_spec hs) hw f listed a w hsh (fun _ h => h) (Region.free_spec (hidx hr') hfr) hr' hy ((ih f _ _ _ (hsh.step hr')).1 hc2 h)
  | m i r o ih1 ih2 =>
    have key : ∀ (fuel : Nat) (listed : Array Bool) (a : Act) (w : World), Shut l.toArray listed → ∀ f, fuel = f + 1 → chkQ l.toArray late false (.m i r o) fuel listed = true → wpQ P l K (.m i r o) a w → ∀ j ∈ altsQ (.m i r o), j ∈ Region.ready .any l.toArray listed → wpOp P l.toArray (only K) j (fun a' w' => (late.contains j = false → Below w.heap.size w w') ∧ wpAnyL P l.toArray K late f (listed.setIfInBounds j true) a' w') a w := by
      intro fuel listed a w hsh f hf hc h j hj hr; subst hf; simp only [chkQ, Bool.and_eq_true] at hc; obtain ⟨⟨_, hc1⟩, hc2⟩ := hc; rcases List.mem_cons.1 hj with rfl | hj
      · exact Zl (hidx hr) (Za h.1 fun a' w' h' => ⟨fun _ => h'.1, (ih1 f _ _ _ (hsh.step hr)).1 hc1 h'.2⟩)
      · exact (ih2 (f + 1) listed a w hsh).2 f J hc2 h.2 j hj hr
    intro fuel listed a w hsh; refine ⟨fun hc h => ?_, key fuel listed a w hsh⟩
    cases fuel with
    | zero => simp [chkQ] at hc
    | succ f =>
      simp only [chkQ, Bool.and_eq_true, Bool.not_true, Bool.false_or, beq_iff_eq] at hc; obtain ⟨⟨⟨hr, hN⟩, hc1⟩, hc2⟩ := hc; refine ⟨(fun h0 => by rw [hr] at h0; simp [altsQ] at h0), fun j hj => ?_⟩; exact key (f + 1) listed a w hsh f J (by simp only [chkQ, hN, hc1, hc2, Bool.not_false, Bool.true_or, Bool.and_self]) h j (by rw [← hr]; exact hj) hj
  | a i r o ih1 ih2 =>
    have key : ∀ (fuel : Nat) (listed : Array Bool) (a : Act) (w : World), Shut l.toArray listed → ∀ f, fuel = f + 1 → chkQ l.toArray late false (.a i r o) fuel listed = true → wpQ P l K (.a i r o) a w → ∀ j ∈ altsQ (.a i r o), j ∈ Region.ready .any l.toArray listed → wpOp P l.toArray (only K) j (fun a' w' => (late.contains j = false → Below w.heap.size w w') ∧ wpAnyL P l.toArray K late f (listed.setIfInBounds j true) a' w') a w := by
      intro fuel listed a w hsh f hf hc h j hj hr; subst hf; simp only [chkQ, Bool.and_eq_true] at hc; obtain ⟨⟨⟨_, hl⟩, hc1⟩, hc2⟩ := hc; rcases List.mem_cons.1 hj with rfl | hj
      · exact Zl (hidx hr) (Za h.1 fun a' w' h' => ⟨(fun hlt => by rw [hlt] at hl; cases hl), (ih1 f _ _ _ (hsh.step hr)).1 hc1 h'⟩)
      · exact (ih2 (f + 1) listed a w hsh).2 f J hc2 h.2 j hj hr
    intro fuel listed a w hsh; refine ⟨fun hc h => ?_, key fuel listed a w hsh⟩
    cases fuel with
    | zero => simp [chkQ] at hc
    | succ f =>
      simp only [chkQ, Bool.and_eq_true, Bool.not_true, Bool.false_or, beq_iff_eq] at hc; obtain ⟨⟨⟨hr, hN⟩, hc1⟩, hc2⟩ := hc; refine ⟨(fun h0 => by rw [hr] at h0; simp [altsQ] at h0), fun j hj => ?_⟩; exact key (f + 1) listed a w hsh f J (by simp only [chkQ, hN, hc1, hc2, Bool.not_false, Bool.true_or, Bool.and_self]) h j (by rw [← hr]; exact hj) hj
variable {X : Ctx} {L : AL} {B : BL} {K : Act → World → Prop}
theorem St.drawQ {id : Nat} {l : List Oper} {Q : Exit → Act → World → Prop} (hm : X.P.follows .mixedOrders = true) (late : List Nat) (ord : Oq)
    (hc : (Region.noSelect l.toArray && chkQ l.toArray late true ord l.length (Array.replicate l.length false)) = true)
    (h : ∀ K, (∀ L' B', Fin X L' B' (fun a w => Q .normal a w) → Fin X L' B' K) → Fin X L B (wpQ X.P l K ord)) : St X L B (.region id l.toArray true) Q := by
  intro a ρ w hI; simp only [Bool.and_eq_true] at hc; obtain ⟨hs, hc⟩ := hc; have h1 := h _ (fun _ _ h => h) a ρ _ (hI.below (Below.drewOnce w)); have h2 := (anyL_ofQ hs ord l.length _ a _ (Shut.start _ _)).1 hc h1; have h3 := wpAny_of_L _ _ _ _ h2
  refine Go.wp_mono (wp_region_any (Q := only fun a w => Q .normal a w) hm ?_) ?_
  · simpa using h3
  · intro e a w h
    cases e with
    | normal => exact h
    | exit _ => exact h.elim
    | goto _ => exact h.elim
    | ret => exact h.elim
    | panic _ => exact h.elim
    | outgrown => exact h.elim
theorem XY {l : List Oper} (h : Fin X L B K) : Fin X L B (wpQ X.P l K .done) := h
theorem Qr {l : List Oper} : Fin X L B (wpQ X.P l K .non) := fun _ _ _ _ => trivial
theorem YZ {l : List Oper} {i : Nat} {r : Oq} (h : Ops X l.toArray (.cons (nth l i) .pure .nil) L B (wpQ X.P l K r)) : Fin X L B (wpQ X.P l K (.p i r)) := h
theorem Zq {l : List Oper} {i : Nat} {r : Oq} (h : Ops X l.toArray (.cons (nth l i) .free .nil) L B (wpQ X.P l K r)) : Fin X L B (wpQ X.P l K (.f i r)) := h
theorem Xs {l : List Oper} {i : Nat} {r o : Oq} (h : Ops X l.toArray (.cons (nth l i) .makes .nil) L B (wpQ X.P l K r)) (h2 : Fin X L B (wpQ X.P l K o)) : Fin X L B (wpQ X.P l K (.m i r o)) := fun a ρ w hI => ⟨h a ρ w hI, h2 a ρ w hI⟩
theorem XV {l : List Oper} {i : Nat} {r o : Oq} (h : Ops X l.toArray (.cons (nth l i) .any .nil) L B (wpQ X.P l K r)) (h2 : Fin X L B (wpQ X.P l K o)) : Fin X L B (wpQ X.P l K (.a i r o)) := fun a ρ w hI => ⟨h a ρ w hI, h2 a ρ w hI⟩
variable {ops : Array Oper} {r : Pl} {k : Kd} {x y z : Operand} {d : Nat} {t t2 t' : TypeId} {pos : String} {af : Array Edge} {g : Option (Nat × Bool)}
end Go.Own
namespace Go.Own
open Go.RowKit
variable {X : Ctx} {L : AL} {B : BL} {ops : Array Oper} {K : Act → World → Prop} {r : Pl} {k : Kd}
  {x y z : Operand} {d : Nat} {t t2 t' : TypeId} {pos : String} {af : Array Edge} {g : Option (Nat × Bool)}
abbrev kh (gb o m c : Nat) : Value := .slice (some ⟨gb, o, none⟩) m c
theorem Ops.cutKh {el n bytes gb o m c : Nat} {zv : Value} {kk : IntKind} {j : Int} (q : Nat) (hg : gd ops L g = some true) (hx : ev L x = some (.ct (.ex (kh gb o m c)))) (hy : ev L y = some (.ct (.ex (.int kk j)))) (hj : j = (q : Int)) (hT : SlcT X.P t el n bytes zv) (h1 : q ≤ c) (hn : Nat.blt d X.n = true)
    (h : Ops X ops r ((d, .ct (.ex (kh gb o q c))) :: L) B K) : Ops X ops (.cons ⟨some d, .slice t x none (some y) none, t', pos, af, g⟩ k r) L B K :=
  XW (s := .ct (.ex (kh gb o q c))) hg rfl hn (fun a ρ w hI => by
    refine ⟨kh gb o q c, fun w' _ => ?_, rfl⟩
    obtain ⟨nf, i1, i2, _⟩ := hT.inf
    have he := elem_eq hT.und
    have hu : X.P.underlying t = some (.slice (X.P.elem t)) := by rw [he]; exact hT.und
    show (do pure (Next.value (← Instr.sliceAt t (a.eval x) (Option.map a.eval none) ((some y).map a.eval) (Option.map a.eval none))) : Sem Next).run X.P w' = _
    simp only [Option.map_some, Option.map_none, hI.evx hx, hI.evx hy, hj]
    refine X9 ?_
    simp only [Instr.sliceAt, Sem.run_bind, run_underlying hT.und, Result.andThen_ok]
    rw [run_slice_h (P := X.P) (w := w') t _ m c hu kk q (by omega) (by omega)]
    rw [he, Zx i1]
    simp [sliced, Addr.add]) h
theorem Ops.cutKl {el n bytes gb o m c : Nat} {zv : Value} {kk : IntKind} {j : Int} (q : Nat) (hg : gd ops L g = some true) (hx : ev L x = some (.ct (.ex (kh gb o m c)))) (hy : ev L y = some (.ct (.ex (.int kk j)))) (hj : j = (q : Int)) (hT : SlcT X.P t el n bytes zv) (h1 : q ≤ m) (hn : Nat.blt d X.n = true)
    (h : Ops X ops r ((d, .ct (.ex (kh gb (if c = q then o else o + q * n) (m - q) (c - q)))) :: L) B K) : Ops X ops (.cons ⟨some d, .slice t x (some y) none none, t', pos, af, g⟩ k r) L B K :=
  XW (s := .ct (.ex (kh gb (if c = q then o else o + q * n) (m - q) (c - q)))) hg rfl hn (fun a ρ w hI => by
    refine ⟨_, fun w' _ => ?_, rfl⟩
    obtain ⟨nf, i1, i2, _⟩ := hT.inf
    have he := elem_eq hT.und
    have hu : X.P.underlying t = some (.slice (X.P.elem t)) := by rw [he]; exact hT.und
    show (do pure (Next.value (← Instr.sliceAt t (a.eval x) ((some y).map a.eval) (Option.map a.eval none) (Option.map a.eval none))) : Sem Next).run X.P w' = _
    simp only [Option.map_some, Option.map_none, hI.evx hx, hI.evx hy, hj]
    refine X9 ?_
    simp only [Instr.sliceAt, Sem.run_bind, run_underlying hT.und, Result.andThen_ok]
    rw [run_slice_l (P := X.P) (w := w') t _ m c hu kk q (by omega) (by omega)]
    rw [he, Zx i1, i2]
    simp only [sliced, Result.andThen_ok, Int.toNat_natCast]
    by_cases hc : c = q
    · simp [hc]
    · simp [hc, Yy]) h
theorem Ops.lenKv {el : Nat} {A : Option Addr} {m c : Nat} (hg : gd ops L g = some true) (hx : ev L x = some (.ct (.ex (.slice A m c)))) (hu : X.P.underlying t = some (.slice el)) (hn : Nat.blt d X.n = true) (h : Ops X ops r ((d, .ct (.ex (.int .i64 m))) :: L) B K) :
    Ops X ops (.cons ⟨some d, .call { callee := .builtin .len, args := #[x], argTypes := #[t] }, t', pos, af, g⟩ k r) L B K :=
  XW (s := .ct (.ex (.int .i64 m))) hg rfl hn (fun a ρ w hI => by
    refine ⟨_, fun w' _ => Zc (args := [x]) ?_, rfl⟩
    intro cs
    simp only [List.map_cons, List.map_nil, hI.evx hx]
    exact run_lenSlice hu A m c cs w') h
theorem Is.rowK {a : Act} {ρ : Nat → Value} {w : World} (hI : Is X L B a ρ w) {i gb m c el n : Nat} {cs : List CT} (hi : bget B i = some (.rowx (kh gb 0 m c) el n cs)) (hl : cs.length = m * n) (hp : 0 < n) :
    ρ i = kh gb 0 m c ∧ ∃ (vs : List Value) (cur : Array Value), cells (Sof X B ρ) w cs vs ∧ vs.length = m * n ∧ w.heap[gb]? = some (.cells cur el (0, 0)) ∧ m ≤ c ∧ c ≤ maxLen ∧ cur.size = c * n ∧ cur.toList.take (m * n) = vs := by
  obtain ⟨hρ, m', vs, how, hc⟩ := (hI.ent i _ hi).1; have hlv := hc.length; have h1 := how.1; rw [hlv, hl] at h1; have hmm : m = m' := Nat.eq_of_mul_eq_mul_right hp h1; subst hmm; rcases how.2 with ⟨h2, _⟩ | ⟨gb', cap, cur, h2, _, hg, hnc, hcm, hcz, htk⟩
  · have h3 := hρ.symm.trans h2; cases h3
  · have h3 := hρ.symm.trans h2
    injection h3 with e1 e2 e3
    injection e1 with e1
    injection e1 with e1
    subst e1; subst e3; exact ⟨hρ, vs, cur, hc, by rw [hlv, hl], hg, hnc, hcm, hcz, htk⟩
theorem Ops.clearK {el n bytes gb m c oy q cq : Nat} {zv : Value} {cs : List CT} (e : Nat) (hg : gd ops L g = some true) (hx : ev L x = some (.ct (.ex (kh gb oy q cq)))) (hoy : q = 0 ∨ oy = m * n) (hi : bget B e = some (.rowx (kh gb 0 m c) el n cs)) (hl : cs.length = m * n) (h1 : m + q ≤ c) (hT : SlcT X.P t el n bytes zv) (hz1 : ∀ v ∈ zv.cells.toList, v.oneCell' = true)
    (h : Ops X ops r L (bset B e (.rowx (kh gb 0 m c) el n cs)) K) : Ops X ops (.cons ⟨none, .call { callee := .builtin .clear, args := #[x], argTypes := #[t] }, t', pos, af, g⟩ .any r) L B K := fun a ρ w hI => by
  show wpO _ _ _ _ _ _
  unfold wpO
  rw [if_pos (Zv (o := ⟨none, _, t', pos, af, g⟩) hI hg)]
  obtain ⟨hρ, vs, cur, hc, hlv, hgb, hmc, hcm, hcz, htk⟩ := hI.rowK hi hl hT.pos
  obtain ⟨nf, i1, i2, i3, i4⟩ := hT.inf
  have hcn : (m + q) * n ≤ c * n := Nat.mul_le_mul_right _ h1
  rw [Nat.add_mul] at hcn
  have hcl : cur.toList.length = c * n := by simpa using hcz
  have hzl : (Builtin.zeroCells zv.cells q).toList.length = q * n := by rw [Array.length_toList, size_zeroCells, hT.zs]
  have hone : ∀ u ∈ (Builtin.zeroCells zv.cells q).toList, u.oneCell' = true := fun u hu => by
    rw [zero_flat] at hu
    obtain ⟨l, hl, hu⟩ := List.mem_flatten.1 hu
    rw [List.eq_of_mem_replicate hl] at hu
    exact hz1 u hu
  have hrun : ∃ cur' : Array Value, (Builtin.clear_ #[t] t' #[kh gb oy q cq]).run X.P w = .ok (.tuple #[]) (w.setRow gb cur') ∧ cur'.size = c * n ∧ cur'.toList.take (m * n) = vs := by
    rcases Nat.eq_zero_or_pos q with h0 | h0
    · subst h0; refine ⟨cur, ?_, hcz, htk⟩; rw [setRow_self w gb cur el (0, 0) hgb]; simp [Builtin.clear_, run_underlying hT.und]
    · have hoy' : oy = m * n := by omega
      subst hoy'; have hst := run_storeCells_at (P := X.P) gb (m * n) el (Builtin.zeroCells zv.cells q).toList 0 cur w hgb (by rw [hzl, ← Array.length_toList, hcl]; omega) hone; simp only [Nat.add_zero] at hst; refine ⟨(cur.toList.take (m * n) ++ (Builtin.zeroCells zv.cells q).toList ++ cur.toList.drop (m * n + (Builtin.zeroCells zv.cells q).toList.length)).toArray, ?_, ?_, ?_⟩; rotate_left
      · show (cur.toList.take (m * n) ++ (Builtin.zeroCells zv.cells q).toList ++ cur.toList.drop (m * n + (Builtin.zeroCells zv.cells q).toList.length)).toArray.size = _; simp only [List.size_toArray, List.length_append, List.length_take, List.length_drop, hzl, hcl]; omega
      · show ((cur.toList.take (m * n) ++ (Builtin.zeroCells zv.cells q).toList ++ cur.toList.drop (m * n + (Builtin.zeroCells zv.cells q).toList.length)).toArray.toList).take (m * n) = _; rw [List.append_assoc, htk, ← hlv]; exact List.take_left
      · obtain ⟨q', rfl⟩ : ∃ q', q = q' + 1 := ⟨q - 1, by omega⟩; have hz : (zeroValue el).run X.P w = .ok zv w := Xt (by rw [i1]; simp [i4]) w; simp only [Builtin.clear_, List.getElem?_toArray, List.getElem?_cons_zero, Sem.run_bind, Sem.run_pure, Result.andThen_ok, run_underlying hT.und, hz, hst]
  obtain ⟨cur', hrun, hs1, hs2⟩ := hrun; unfold Oper.wp
  rw [show (execOp a.eval ⟨none, .call { callee := .builtin .clear, args := #[x], argTypes := #[t] }, t', pos, af, g⟩).run X.P w = .ok (.value (.tuple #[])) (w.setRow gb cur') from
    Zc (args := [x]) (fun _ => by simp only [List.map_cons, List.map_nil, hI.evx hx]; exact X9 hrun)]
  show wpX _ _ _ _ (a.put none _) _; rw [put_none]
  have hW := Is.write (i := e) (v := ρ e) (e' := .rowx (kh gb 0 m c) el n cs) (w' := w.setRow gb cur') hI hi J J J (by simp)
    (fun p hp hne => setRow_other _ _ _ _ (fun e => hne (by rw [e, hρ]; rfl))) (.inl J)
    (fun S' hk => ⟨hρ, m, vs, ⟨hlv, .inr ⟨gb, c, cur', hρ, Nat.zero_le _, setRow_heap w gb cur _ el _ hgb, hmc, hcm, hs1, hs2⟩⟩, hc.mono hk⟩) (.inl J) (.inr J)
  exact h _ _ _ (hW.bext (Xg hi))
end Go.Own
namespace Go.Own
open Go.RowKit
variable {X : Ctx} {L : AL} {B : BL} {ops : Array Oper} {K : Act → World → Prop} {r : Pl} {k : Kd}
  {x y z : Operand} {d : Nat} {t t2 t' : TypeId} {pos : String} {af : Array Edge} {g : Option (Nat × Bool)}
theorem Sof_del {ρ : Nat → Value} {w : World} (i : Nat) : Kp (Sof X B ρ) (Sof X (bdel B i) ρ) w w := ⟨Nat.le_refl _, fun k _ hs => ⟨⟨hs.1, fun j e hj => by
    by_cases hji : j = i
    · subst hji; rw [Zd] at hj; cases hj
    · rw [Zy _ hji] at hj; exact hs.2 j e hj⟩, rfl⟩⟩
def Sl.ren (a : Nat) : Sl → Sl
  | .own _ => .own a
  | s => s
def notN (a j : Nat) : Bool := !Nat.beq a j
theorem Ops.call1 {f : FuncId} {args : List Operand} {tys : Array TypeId} {As : List CT} {e : Ent} {α : Type} {J : α → Prop} {R : α → Sl} {e' : α → Ent} (a : Nat) (hgo : InGo X.P f) (hok : OkM X.P f (As.map Sl.ct) [(a, e)] [] J R (fun q => [(a, e' q)])) (hg : gd ops L g = some true) (hargs : evS L args = some (As.map Sl.ct)) (hn : Nat.blt d X.n = true)
    (hbor : ∀ gb, X.bor gb → X.S0 gb) (hi : bget B a = some e) (hfix : ∀ p ∈ X.fix, p.1 ≠ a ∧ (bget B p.1).isSome = true) (hR : ∀ q j, (R q = .own j ∨ ∃ o, R q = .loc j o) → j = a)
    (h : ∀ q, J q → Ops X ops r ((d, R q) :: keepL (notN a) L) ((a, e' q) :: bdel B a) K) : Ops X ops (.cons ⟨some d, .call { callee := .value (.func f), args := args.toArray, argTypes := tys }, t, pos, af, g⟩ .any r) L B K := by
  refine Ops.callM (bdel B a) (notN a) hgo hok hg hargs hn hbor (fun j => ?_) (fun j hj => ?_) (fun j hj => ?_) (fun p hp => ?_) (fun q j hq => ?_) h
  · show _ = bget ((a, e) :: bdel B a) j; by_cases hja : a = j
    · subst hja; rw [Xj]; exact hi
    · rw [Ql _ _ hja, Zy _ (Ne.symm hja)]
  · have hja : a ≠ j := fun he => by subst he; rw [Zd] at hj; cases hj
    exact ⟨by rw [Ql _ _ hja]; rfl, fun q => by rw [Ql _ _ hja]; rfl⟩
  · have hja : a ≠ j := fun he => by subst he; simp [notN] at hj
    exact .inr fun q => by rw [Ql _ _ hja]; rfl
  · have := hfix p hp; exact .inl (by rw [Zy _ this.1]; exact this.2)
  · rw [hR q j hq, Xj]; rfl
end Go.Own
namespace Go.Own
open Go.RowKit
variable {X : Ctx} {L : AL} {B : BL} {ops : Array Oper} {K : Act → World → Prop} {r : Pl} {k : Kd}
  {x y z : Operand} {d : Nat} {t t2 t' : TypeId} {pos : String} {af : Array Edge} {g : Option (Nat × Bool)}
section
variable {α : Type} {f : α → List CT} {n : Nat}
theorem el_len (hf : ∀ a, (f a).length = n) (l : List α) : (l.map f).flatten.length = l.length * n := by
  rw [Zu (k := n) (fun e he => by obtain ⟨m, _, rfl⟩ := List.mem_map.mp he; exact hf m)]; simp
theorem el_take (hf : ∀ a, (f a).length = n) (l : List α) (i : Nat) : (l.map f).flatten.take (i * n) = ((l.take i).map f).flatten := by
  induction l generalizing i with
  | nil => simp
  | cons c l ih =>
    cases i with
    | zero => simp
    | succ i =>
      rw [List.map_cons, List.flatten_cons, List.take_succ_cons, List.map_cons, List.flatten_cons, List.take_append, List.take_of_length_le (by rw [hf, Nat.succ_mul]; omega), ← ih]
      congr 2; rw [hf, Nat.succ_mul]; omega
theorem el_drop (hf : ∀ a, (f a).length = n) (l : List α) (i : Nat) : (l.map f).flatten.drop (i * n) = ((l.drop i).map f).flatten := by
  induction l generalizing i with
  | nil => simp
  | cons c l ih =>
    cases i with
    | zero => simp
    | succ i =>
      rw [List.map_cons, List.flatten_cons, List.drop_succ_cons, List.drop_append, List.drop_of_length_le (by rw [hf, Nat.succ_mul]; omega), List.nil_append, ← ih]
      congr 1; rw [hf, Nat.succ_mul]; omega
theorem el_get (hf : ∀ a, (f a).length = n) {l : List α} {i : Nat} (z : α) (h : i < l.length) : ((l.map f).flatten.drop (i * n)).take n = f (l.getD i z) := by
  rw [el_drop hf]
  conv => lhs; rw [← Nat.one_mul n]
  rw [el_take hf]
  have : (l.drop i).take 1 = [l.getD i z] := by
    rw [List.getD_eq_getElem?_getD, List.getElem?_eq_getElem h, List.drop_eq_getElem_cons h]; rfl
  rw [this]; simp
theorem el_put (hf : ∀ a, (f a).length = n) {l : List α} {i : Nat} (c : α) (h : i < l.length) : spl (l.map f).flatten (i * n) (f c) = ((l.set i c).map f).flatten := by
  unfold spl; rw [el_take hf, hf, ← Nat.succ_mul, el_drop hf, List.set_eq_take_append_cons_drop, if_pos h]; simp
theorem el_put1 (hf : ∀ a, (f a).length = n) {l : List α} {i o : Nat} (z c : α) {ds : List CT} (h : i < l.length) (ho : o + ds.length ≤ n) (hc : spl (f (l.getD i z)) o ds = f c) : spl (l.map f).flatten (i * n + o) ds = ((l.set i c).map f).flatten := by
  rw [← el_put hf c h, ← hc]; have e := el_get hf z h
  have hl : i * n + n ≤ (l.map f).flatten.length := by rw [el_len hf, ← Nat.succ_mul]; exact Nat.mul_le_mul_right _ h
  have hn := hf (l.getD i z); generalize (l.map f).flatten = q at e hl; generalize f (l.getD i z) = p at e hn; unfold spl; subst e; generalize i * n = s at hl hn ⊢
  have hlen : (List.take o (List.take n (List.drop s q)) ++ ds ++ List.drop (o + ds.length) (List.take n (List.drop s q))).length = n := by simp; omega
  rw [hlen]
  have e1 : q.take (s + o) = q.take s ++ ((q.drop s).take n).take o := by
    rw [List.take_take, Nat.min_eq_left (by omega), ← List.take_add]
  have e2 : q.drop (s + o + ds.length) = ((q.drop s).take n).drop (o + ds.length) ++ q.drop (s + n) := by
    rw [List.drop_take, List.drop_drop, ← Nat.add_assoc, show q.drop (s + n) = (q.drop (s + o + ds.length)).drop (n - (o + ds.length)) by rw [List.drop_drop]; congr 1; omega, List.take_append_drop]
  rw [e1, e2]; simp only [List.append_assoc]
theorem ones_append : ∀ a b : List CT, ones (a ++ b) = (ones a && ones b)
  | [], b => rfl
  | c :: a, b => by simp only [List.cons_append, ones, ones_append a b, Bool.and_assoc]
theorem el_ones (h : ∀ a, ones (f a) = true) : ∀ l : List α, ones (l.map f).flatten = true
  | [] => rfl
  | a :: l => by rw [List.map_cons, List.flatten_cons, ones_append, h a, el_ones h l]; rfl
theorem stE1 {i j o el : Nat} {l : List α} {c : CT} (f : α → List CT) (z a : α) (hf : ∀ a, (f a).length = n) (hg : gd ops L g = some true) (hx : ev L x = some (.loc i (j * n + o))) (hi : bget B i = some (.row el n ((l.map f).flatten))) (hy : ev L y = some (.ct c)) (ho : c.one = true) (hj : j < l.length) (ho2 : o < n) (hc : spl (f (l.getD j z)) o [c] = f a) (hsz : (X.P.info? t).map (·.size) = some 1)
    (h : Ops X ops r L (bset B i (.row el n (((l.set j a).map f).flatten))) K) : Ops X ops (.cons ⟨none, .store t x y, t', pos, af, g⟩ .any r) L B K :=
  Ops.stG hg hx (.inl rfl) hi (one_val ho hy) hsz (by
    show j * n + o + 1 ≤ (l.map f).flatten.length
    rw [el_len hf]
    have := Nat.mul_le_mul_right n hj
    rw [Nat.succ_mul] at this; omega) (by
    have : (Ent.row el n ((l.map f).flatten)).putc (j * n + o) [c] = .row el n (((l.set j a).map f).flatten) := by rw [← el_put1 hf z a (ds := [c]) hj ho2 hc]; rfl
    rw [this]; exact h)
theorem ldE {i j : Nat} {e : Ent} {l : List α} (f : α → List CT) (z : α) (hf : ∀ a, (f a).length = n) (hk : k.rd = true) (hg : gd ops L g = some true) (hx : ev L x = some (.loc i (j * n))) (hi : bget B i = some e) (he : e.cs = (l.map f).flatten) (hj : j < l.length) (hT : LdN X.P t n) (hn : Nat.blt d X.n = true)
    (h : Ops X ops r ((d, .ct (.fr (aggT (f (l.getD j z))))) :: L) B K) : Ops X ops (.cons ⟨some d, .load t x, t', pos, af, g⟩ k r) L B K :=
  Ops.ldNA hk hg hx hi (by rw [he, el_len hf, ← Nat.succ_mul]; exact Nat.mul_le_mul_right _ hj) hT hn (by rw [he, el_get hf z hj]; exact h)
theorem stE {i j el : Nat} {l : List α} (f : α → List CT) (c : α) (hf : ∀ a, (f a).length = n) (hg : gd ops L g = some true) (hx : ev L x = some (.loc i (j * n))) (hi : bget B i = some (.row el n ((l.map f).flatten))) (hy : ev L y = some (.ct (.fr (aggT (f c))))) (ho : ones (f c) = true) (hj : j < l.length) (hsz : (X.P.info? t).map (·.size) = some n)
    (h : Ops X ops r L (bset B i (.row el n (((l.set j c).map f).flatten))) K) : Ops X ops (.cons ⟨none, .store t x y, t', pos, af, g⟩ .any r) L B K :=
  Ops.stNA hg hx hi hy ho (by rw [hsz, hf]) (by show j * n + (f c).length ≤ _; rw [hf]; show _ ≤ (l.map f).flatten.length; rw [el_len hf, ← Nat.succ_mul]; exact Nat.mul_le_mul_right _ hj) (by
    have : (Ent.row el n ((l.map f).flatten)).putc (j * n) (f c) = .row el n (((l.set j c).map f).flatten) := by rw [← el_put hf c hj]; rfl
    rw [this]; exact h)
end
theorem keepL_id {i : Nat} : ∀ {L : AL}, noN i L = true → keepL (fun j => !Nat.beq j i) L = L
  | [], _ => rfl
  | (d, s) :: L, h => by
    simp only [noN, Bool.and_eq_true] at h
    rw [keepL, keepL_id h.2]
    congr 2
    cases s with
    | own j => have := h.1; simp only [Sl.keepN, this, if_true]
    | loc j o => have := h.1; simp only [Sl.keepN, this, if_true]
    | ct c => rfl
    | any => rfl
end Go.Own
namespace Go.Own
open Go.RowKit
inductive Am where
  | i (k : IntKind) (n : Int)
  | b (x : Bool)
deriving DecidableEq
def Am.v : Am → Value
  | .i k n => .int k n
  | .b x => .bool x
def Am.ty : Am → TypeDesc
  | .i k _ => .int k
  | .b _ => .bool
abbrev amC (aq : List Am) : List CT := aq.map fun a => CT.ex a.v
theorem run_part_am {P : Program} {t : TypeId} {a : Am} {cs : Array Value} {o : Nat} (h : P.underlying t = some a.ty) (hv : cs[o]? = some a.v) (w : World) : (part t cs o).run P w = .ok a.v w := by
  cases a with
  | i k n => exact run_part_int h hv w
  | b x =>
    have h : P.underlying t = some .bool := h
    simp [part, isAgg, run_underlying h, hv]
theorem run_eqAm {P : Program} {t : TypeId} {a b : Am} (d : Nat) (w : World) (h : P.underlying t = some a.ty) (hb : a.ty = b.ty) : (Op.equalIn (d + 1) t a.v b.v).run P w = .ok (decide (a = b)) w := by
  cases a with
  | i k n =>
    cases b with
    | i k' n' =>
      injection hb with hb; subst hb
      show (Op.equalIn (d + 1) t (.int k n) (.int k n')).run P w = _
      rw [run_equalIn_int w d t k k n n' h]
      congr 1
      by_cases hn : n = n' <;> simp [hn]
    | b x => cases hb
  | b x =>
    cases b with
    | i k n => cases hb
    | b y =>
      show (Op.equalIn (d + 1) t (.bool x) (.bool y)).run P w = _
      rw [run_equalIn_bool' w d t x y h]
      congr 1
      cases x <;> cases y <;> rfl
theorem run_eqAtoms {P : Program} (d : Nat) (xs ys : Array Value) (w : World) (rest : List Field) : ∀ (fs : List Field) (aq bs : List Am) (s : Nat), aq.map Am.ty = bs.map Am.ty →
    fs.map (fun f => (f.name == "_", f.offset, P.underlying f.type)) = (aq.zipIdx s).map (fun p => (false, p.2, some p.1.ty)) →
    (∀ j a, aq[j]? = some a → xs[s + j]? = some a.v) → (∀ j a, bs[j]? = some a → ys[s + j]? = some a.v) →
    (Op.eqFields (d + 1) xs ys (fs ++ rest)).run P w = if aq = bs then (Op.eqFields (d + 1) xs ys rest).run P w else .ok false w
  | [], [], [], _, _, _, _, _ => by simp
  | [], _ :: _, _, _, _, h, _, _ => by simp at h
  | _ :: _, [], _, _, _, h, _, _ => by simp at h
  | [], [], _ :: _, _, h, _, _, _ => by simp at h
  | _ :: _, _ :: _, [], _, h, _, _, _ => by simp at h
  | f :: fs, a :: aq, b :: bs, s, h1, hf, hx, hy => by
    simp only [List.map_cons, List.zipIdx_cons] at hf h1
    injection hf with hf1 hf2
    injection hf1 with hn ho
    injection ho with ho hu
    injection h1 with h1 h2
    have hx0 := hx 0 a rfl
    have hy0 := hy 0 b rfl
    rw [Nat.add_zero] at hx0 hy0
    have hne : f.name ≠ "_" := by simpa using hn
    have ih := run_eqAtoms d xs ys w rest fs aq bs (s + 1) h2 hf2 (fun j a' e => by rw [show s + 1 + j = s + (j + 1) by omega]; exact hx (j + 1) a' e) (fun j a' e => by rw [show s + 1 + j = s + (j + 1) by omega]; exact hy (j + 1) a' e)
    simp only [List.cons_append, Op.eqFields, if_pos hne, Sem.run_bind]
    rw [run_part_am hu (by rw [ho]; exact hx0)]
    simp only [Result.andThen_ok]
    rw [run_part_am (a := b) (hu.trans (by rw [h1])) (by rw [ho]; exact hy0)]
    simp only [Result.andThen_ok]
    rw [run_eqAm d w hu h1]
    simp only [Result.andThen_ok]
    by_cases hab : a = b
    · subst hab
      simp only [decide_true, Bool.not_true, Bool.false_eq_true, if_false]
      rw [ih]
      by_cases h3 : aq = bs <;> simp [h3]
    · simp [hab]
structure EqN (P : Program) (t ta : TypeId) (k1 k2 : List TypeDesc) : Prop where
  und : P.underlying t = some (.struct (P.fieldsOf t))
  held : P.stoodInHeld t = false
  guard : P.eqGuardType P.depth t = false
  fields : (P.fieldsOf t).toList.map (fun f => (f.name == "_", f.offset, P.underlying f.type)) = k1.zipIdx.map (fun p => (false, p.2, some p.1)) ++ [(false, k1.length, some (.struct (P.fieldsOf ta)))]
  last : ((P.fieldsOf t).toList.getLast?).map (·.type) = some ta
  unda : P.underlying ta = some (.struct (P.fieldsOf ta))
  helda : P.stoodInHeld ta = false
  size : (P.info? ta).map (·.size) = some k2.length
  fieldsa : (P.fieldsOf ta).toList.map (fun f => (f.name == "_", f.offset, P.underlying f.type)) = k2.zipIdx.map (fun p => (false, p.2, some p.1))
theorem zipIdx_ty (aq : List Am) (s : Nat) : ((aq.map Am.ty).zipIdx s).map (fun p => (false, p.2, some p.1)) = (aq.zipIdx s).map (fun p => (false, p.2, some p.1.ty)) := by
  induction aq generalizing s with
  | nil => rfl
  | cons a aq ih => simp only [List.map_cons, List.zipIdx_cons, ih]
theorem EqN.run {P : Program} {t ta : TypeId} {k1 k2 : List TypeDesc} (h : EqN P t ta k1 k2) (a1 b1 a2 b2 : List Am) (e1 : a1.map Am.ty = k1) (e2 : b1.map Am.ty = k1) (e3 : a2.map Am.ty = k2) (e4 : b2.map Am.ty = k2) (w : World) :
    (Op.equalIn 10000 t (.agg ((a1 ++ a2).map Am.v).toArray) (.agg ((b1 ++ b2).map Am.v).toArray)).run P w = .ok (decide (a1 = b1 ∧ a2 = b2)) w := by
  rw [run_equalIn_struct w 9999 t _ _ h.und h.held]
  have hl1 : a1.length = k1.length := by rw [← e1, List.length_map]
  have hl2 : b1.length = k1.length := by rw [← e2, List.length_map]
  have hl3 : a2.length = k2.length := by rw [← e3, List.length_map]
  have hl4 : b2.length = k2.length := by rw [← e4, List.length_map]
  obtain ⟨fs, fa, hfs⟩ : ∃ fs fa, (P.fieldsOf t).toList = fs ++ [fa] := by
    rcases List.eq_nil_or_concat (P.fieldsOf t).toList with h0 | ⟨fs, fa, h0⟩
    · have := h.last; rw [h0] at this; cases this
    · exact ⟨fs, fa, by rw [h0]; simp⟩
  have hF := h.fields
  rw [hfs, List.map_append] at hF
  have hF2 := List.append_inj' hF rfl
  have hlast : fa.type = ta := by
    have := h.last
    rw [hfs, List.getLast?_append] at this
    simpa using this
  have hfa := hF2.2
  simp only [List.map_cons, List.map_nil, List.cons.injEq, and_true, Prod.mk.injEq] at hfa
  obtain ⟨hn, ho, hu⟩ := hfa
  have hne : fa.name ≠ "_" := by simpa using hn
  have gx : ∀ (p q : List Am) (j : Nat) (a : Am), p[j]? = some a → ((p ++ q).map Am.v).toArray[0 + j]? = some a.v := fun p q j a e => by
    have hj : j < p.length := (List.getElem?_eq_some_iff.1 e).1
    rw [Nat.zero_add, List.getElem?_toArray, List.getElem?_map, List.getElem?_append_left hj, e]; rfl
  rw [hfs, run_eqAtoms 9998 _ _ w [fa] fs a1 b1 0 (e1.trans e2.symm) (by rw [hF2.1, ← e1, zipIdx_ty]) (gx a1 a2) (gx b1 b2)]
  by_cases h1 : a1 = b1
  · rw [if_pos h1]
    have hpart : ∀ (p q : List Am), p.length = k1.length → q.length = k2.length → (part fa.type ((p ++ q).map Am.v).toArray fa.offset).run P w = .ok (.agg (q.map Am.v).toArray) w := fun p q hp hq => by
      have hs : (sizeOf fa.type).run P w = .ok k2.length w := by
        rw [hlast]
        obtain ⟨i, hi, hs⟩ := Option.map_eq_some_iff.1 h.size
        simp [sizeOf, typeInfo, hi, hs]
      have ha : (isAgg fa.type).run P w = .ok true w := by simp [isAgg, run_underlying (hlast ▸ h.unda)]
      simp only [part, Sem.run_bind, ha, Result.andThen_ok, if_true, hs, Sem.run_pure]
      congr 2
      rw [ho]
      apply Array.ext'
      simp only [Array.toList_extract, List.extract_eq_take_drop, List.map_append]
      rw [show k1.length + k2.length - k1.length = k2.length by omega, List.drop_append, List.drop_of_length_le (by rw [List.length_map]; omega), List.nil_append, List.length_map, hp, Nat.sub_self, List.drop_zero, List.take_of_length_le (by rw [List.length_map]; omega)]
    simp only [Op.eqFields, if_pos hne, Sem.run_bind]
    rw [hpart a1 a2 hl1 hl3]
    simp only [Result.andThen_ok]
    rw [hpart b1 b2 hl2 hl4]
    simp only [Result.andThen_ok]
    rw [hlast, run_equalIn_struct w 9998 ta _ _ h.unda h.helda]
    have gy : ∀ (q : List Am) (j : Nat) (a : Am), q[j]? = some a → (q.map Am.v).toArray[0 + j]? = some a.v := fun q j a e => by
      rw [Nat.zero_add, List.getElem?_toArray, List.getElem?_map, e]; rfl
    have := run_eqAtoms 9997 (a2.map Am.v).toArray (b2.map Am.v).toArray w [] (P.fieldsOf ta).toList a2 b2 0 (e3.trans e4.symm) (by rw [h.fieldsa, ← e3, zipIdx_ty]) (gy a2) (gy b2)
    rw [List.append_nil] at this
    rw [this]
    by_cases h2 : a2 = b2
    · rw [if_pos h2]; simp [Op.eqFields, h1, h2]
    · rw [if_neg h2]; simp [h2]
  · rw [if_neg h1]; simp [h1]
theorem am_cells {S : BSet} {w : World} : ∀ {aq : List Am} {vs : List Value}, cells S w (amC aq) vs → vs = aq.map Am.v
  | [], [], _ => rfl
  | a :: aq, v :: vs, ⟨h1, h2⟩ => by
    have h1 : v = a.v := h1
    rw [h1, am_cells h2]; rfl
  | [], _ :: _, h => h.elim
  | _ :: _, [], h => h.elim
variable {X : Ctx} {L : AL} {B : BL} {ops : Array Oper} {K : Act → World → Prop} {r : Pl} {k : Kd}
  {x y z : Operand} {d : Nat} {t t2 t' ta : TypeId} {pos : String} {af : Array Edge} {g : Option (Nat × Bool)}
theorem Ops.eqN {k1 k2 : List TypeDesc} (a1 a2 b1 b2 : List Am) (hg : gd ops L g = some true) (hx : ev L x = some (.ct (.fr (aggT (amC (a1 ++ a2)))))) (hy : ev L y = some (.ct (.fr (aggT (amC (b1 ++ b2)))))) (e1 : a1.map Am.ty = k1) (e2 : b1.map Am.ty = k1) (e3 : a2.map Am.ty = k2) (e4 : b2.map Am.ty = k2) (hE : EqN X.P t ta k1 k2) (hn : Nat.blt d X.n = true)
    (h : Ops X ops r ((d, .ct (.ex (.bool (decide (a1 = b1 ∧ a2 = b2))))) :: L) B K) : Ops X ops (.cons ⟨some d, .binOp .eql t x y t2, t', pos, af, g⟩ k r) L B K :=
  XW (s := .ct (.ex (.bool (decide (a1 = b1 ∧ a2 = b2))))) hg rfl hn (fun a ρ w hI => ⟨_, fun w' _ => by
    obtain ⟨us, f1, c1⟩ := hI.ev hx
    obtain ⟨vs, f2, c2⟩ := hI.ev hy
    have d1 := am_cells c1
    have d2 := am_cells c2
    subst d1; subst d2
    show (do pure (Next.value (← (do eqGuard .eql t x y (a.eval x) (a.eval y); binOp .eql t (a.eval x) (a.eval y) : Sem Value))) : Sem Next).run X.P w' = _
    rw [f1, f2]
    refine X9 ?_
    simp only [Sem.run_bind, run_eqGuard_agg w' _ t x y _ _ hE.guard, Result.andThen_ok]
    rw [run_eql_struct, hE.run a1 b1 a2 b2 e1 e2 e3 e4 w']; rfl, rfl⟩) h
theorem Ops.neN {k1 k2 : List TypeDesc} (a1 a2 b1 b2 : List Am) (hg : gd ops L g = some true) (hx : ev L x = some (.ct (.fr (aggT (amC (a1 ++ a2)))))) (hy : ev L y = some (.ct (.fr (aggT (amC (b1 ++ b2)))))) (e1 : a1.map Am.ty = k1) (e2 : b1.map Am.ty = k1) (e3 : a2.map Am.ty = k2) (e4 : b2.map Am.ty = k2) (hE : EqN X.P t ta k1 k2) (hn : Nat.blt d X.n = true)
    (h : Ops X ops r ((d, .ct (.ex (.bool (!decide (a1 = b1 ∧ a2 = b2))))) :: L) B K) : Ops X ops (.cons ⟨some d, .binOp .neq t x y t2, t', pos, af, g⟩ k r) L B K :=
  XW (s := .ct (.ex (.bool (!decide (a1 = b1 ∧ a2 = b2))))) hg rfl hn (fun a ρ w hI => ⟨_, fun w' _ => by
    obtain ⟨us, f1, c1⟩ := hI.ev hx
    obtain ⟨vs, f2, c2⟩ := hI.ev hy
    have d1 := am_cells c1
    have d2 := am_cells c2
    subst d1; subst d2
    show (do pure (Next.value (← (do eqGuard .neq t x y (a.eval x) (a.eval y); binOp .neq t (a.eval x) (a.eval y) : Sem Value))) : Sem Next).run X.P w' = _
    rw [f1, f2]
    refine X9 ?_
    simp only [Sem.run_bind, run_eqGuard_agg w' _ t x y _ _ hE.guard, Result.andThen_ok]
    rw [run_neq_struct, hE.run a1 b1 a2 b2 e1 e2 e3 e4 w']; rfl, rfl⟩) h
end Go.Own
namespace Go.Own
open Go.RowKit
structure Tb where
  fld : List (Nat × Nat × Nat)
  one : List Nat
  cv : List (Nat × Nat × IntKind)
  ar : List Nat
structure Tb.ok (P : Program) (T : Tb) : Prop where
  fld : ∀ p ∈ T.fld, ∃ sz, fldInfo P p.1 p.2.1 = some (p.2.2, some (sz + 1))
  one : ∀ t ∈ T.one, Ld1 P t
  cv : ∀ p ∈ T.cv, (∃ D, P.underlying p.1 = some D) ∧ P.underlying p.2.1 = some (.int p.2.2)
  ar : ∀ t ∈ T.ar, ∃ el v0 v1, ArrT P t el 2 1 (.agg #[v0, v1])
def fldL : List (Nat × Nat × Nat) → Nat → Nat → Option Nat
  | [], _, _ => none
  | (a, b, o) :: l, t, f => match Nat.beq a t, Nat.beq b f with
    | true, true => some o
    | _, _ => fldL l t f
def hasL : List Nat → Nat → Bool
  | [], _ => false
  | a :: l, t => match Nat.beq a t with
    | true => true
    | false => hasL l t
def cvL : List (Nat × Nat × IntKind) → Nat → Nat → Option IntKind
  | [], _, _ => none
  | (a, b, k) :: l, s, t => match Nat.beq a s, Nat.beq b t with
    | true, true => some k
    | _, _ => cvL l s t
theorem fldL_mem : ∀ {l : List (Nat × Nat × Nat)} {t f o : Nat}, fldL l t f = some o → (t, f, o) ∈ l
  | (a, b, o') :: l, t, f, o, h => by
    unfold fldL at h
    split at h
    · rename_i h1 h2
      injection h with h; subst h
      rw [Nat.eq_of_beq_eq_true h1, Nat.eq_of_beq_eq_true h2]; exact List.mem_cons_self ..
    · exact List.mem_cons_of_mem _ (fldL_mem h)
theorem hasL_mem : ∀ {l : List Nat} {t : Nat}, hasL l t = true → t ∈ l
  | a :: l, t, h => by
    unfold hasL at h
    split at h
    · rename_i h1
      rw [Nat.eq_of_beq_eq_true h1]; exact List.mem_cons_self ..
    · exact List.mem_cons_of_mem _ (hasL_mem h)
theorem cvL_mem : ∀ {l : List (Nat × Nat × IntKind)} {s t : Nat} {k : IntKind}, cvL l s t = some k → (s, t, k) ∈ l
  | (a, b, k') :: l, s, t, k, h => by
    unfold cvL at h
    split at h
    · rename_i h1 h2
      injection h with h; subst h
      rw [Nat.eq_of_beq_eq_true h1, Nat.eq_of_beq_eq_true h2]; exact List.mem_cons_self ..
    · exact List.mem_cons_of_mem _ (cvL_mem h)
def stepB (T : Tb) (n : Nat) (B : BL) (L : AL) : Oper → Kd → Option AL
  | ⟨some d, op, _, _, _, none⟩, k =>
    match Nat.blt d n with
    | false => none
    | true =>
      match op with
      | .move x => (ev L x).map fun s => (d, s) :: L
      | .fieldAddr t x f =>
        match fldL T.fld t f with
        | some off =>
          match ev L x with
          | some (.own i) => match bget B i with
            | some (.box _ _) => some ((d, .loc i off) :: L)
            | _ => none
          | some (.loc i o) => some ((d, .loc i (o + off)) :: L)
          | _ => none
        | _ => none
      | .load t x =>
        match k.rd, hasL T.one t with
        | true, true =>
          match ev L x with
          | some (.loc i o) => match bget B i with
            | some e => (e.cs[o]?).map fun c => (d, .ct c) :: L
            | none => none
          | _ => none
        | _, _ => none
      | .convert src dst x =>
        match cvL T.cv src dst, ev L x with
        | some k2, some (.ct (.ex (.int _ p))) => some ((d, .ct (.ex (.int k2 (k2.wrap p)))) :: L)
        | _, _ => none
      | .build t ps =>
        match ps.toList, hasL T.ar t with
        | [(0, x), (1, y)], true =>
          match ev L x, ev L y with
          | some (.ct c1), some (.ct c2) => match c1.one, c2.one with
            | true, true => some ((d, .ct (.fr (aggT [c1, c2]))) :: L)
            | _, _ => none
          | _, _ => none
        | _, _ => none
      | _ => none
  | _, _ => none
def goB (T : Tb) (n : Nat) (B : BL) : Nat → Pl → AL → Option (Pl × AL)
  | 0, l, L => some (l, L)
  | m + 1, .cons o k r, L => match stepB T n B L o k with
    | some L' => goB T n B m r L'
    | none => none
  | _ + 1, _, _ => none
variable {X : Ctx} {L : AL} {B : BL} {ops : Array Oper} {K : Act → World → Prop} {T : Tb}
theorem stepB_ok (hT : T.ok X.P) {o : Oper} {k : Kd} {r : Pl} {L' : AL} (h : stepB T X.n B L o k = some L') (hr : Ops X ops r L' B K) : Ops X ops (.cons o k r) L B K := by
  obtain ⟨dst, op, t', pos, af, g⟩ := o
  cases dst with
  | none => simp [stepB] at h
  | some d =>
    cases g with
    | some g => simp [stepB] at h
    | none =>
      unfold stepB at h
      dsimp only at h
      cases hn : Nat.blt d X.n with
      | false => rw [hn] at h; simp at h
      | true =>
        rw [hn] at h
        dsimp only at h
        cases op with
        | move x =>
          simp only [Option.map_eq_some_iff] at h
          obtain ⟨s, h1, rfl⟩ := h
          exact Qq rfl h1 hn hr
        | fieldAddr t x f =>
          simp only at h
          split at h
          · rename_i off hF
            obtain ⟨sz, hF⟩ := hT.fld _ (fldL_mem hF)
            split at h
            · rename_i i hx
              split at h
              · rename_i tt cs hi
                injection h with h; subst h
                exact QV rfl hx hi hF hn hr
              · cases h
            · rename_i i o hx
              injection h with h; subst h
              exact X2 rfl hx hF hn hr
            · cases h
          · cases h
        | load t x =>
          simp only at h
          split at h
          · rename_i hk hD
            split at h
            · rename_i i o hx
              split at h
              · rename_i e hi
                simp only [Option.map_eq_some_iff] at h
                obtain ⟨c, hc, rfl⟩ := h
                exact QJ hk rfl hx hi hc (hT.one _ (hasL_mem hD)) hn hr
              · cases h
            · cases h
          · cases h
        | convert src dst x =>
          simp only at h
          split at h
          · rename_i k2 k1 p h1 hx
            injection h with h; subst h
            obtain ⟨⟨D, h2⟩, h3⟩ := hT.cv _ (cvL_mem h1)
            exact Zg rfl hx h2 h3 rfl hn hr
          · cases h
        | build t ps =>
          simp only at h
          split at h
          · rename_i x y hp hA
            split at h
            · rename_i c1 c2 hx hy
              split at h
              · rename_i o1 o2
                injection h with h; subst h
                obtain ⟨el, v0, v1, hT⟩ := hT.ar _ (hasL_mem hA)
                obtain ⟨pl⟩ := ps
                have hp : pl = [(0, x), (1, y)] := hp
                subst hp
                exact Xo (n := 1) (cs := [c1, c2]) rfl hT (.one rfl hx o1 rfl (.one rfl hy o2 rfl .nil)) hn hr
              · cases h
            · cases h
          · cases h
        | _ => simp at h
theorem goB_ok (hT : T.ok X.P) : ∀ (m : Nat) (l : Pl) (L : AL) (r : Pl) (L' : AL), goB T X.n B m l L = some (r, L') → Ops X ops r L' B K → Ops X ops l L B K
  | 0, l, L, r, L', h, hr => by
    simp only [goB, Option.some.injEq, Prod.mk.injEq] at h
    obtain ⟨rfl, rfl⟩ := h
    exact hr
  | m + 1, .cons o k q, L, r, L', h, hr => by
    simp only [goB] at h
    split at h
    · rename_i L2 h2
      exact stepB_ok hT h2 (goB_ok hT m q L2 r L' h hr)
    · cases h
  | _ + 1, .nil, _, _, _, h, _ => by simp [goB] at h
  | _ + 1, .fork .., _, _, _, h, _ => by simp [goB] at h
theorem Ops.batchP (hT : T.ok X.P) (m : Nat) (ord' : Od) (L' : AL) {lst : List Oper} {ord : Od} (h1 : goB T X.n B m (pick lst ord) L = some (pick lst ord', L')) (L2 : AL) (h3 : subL L' L2) (h : Ops X ops (pick lst ord') L2 B K) : Ops X ops (pick lst ord) L B K :=
  goB_ok hT m _ L _ L' h1 (fun a ρ w hI => h a ρ w (hI.subL h3))
end Go.Own
namespace Go.Proofs.YtlkdkbdgnjcopaaGreat
open Go.Own
attribute [local irreducible] St Ops Go.Own.Fin Ok OkB OkN OkT OkL OkF
structure Rs where
  va : Int
  ru : Int
  nu : Int
  tm : Int
  dst : Fin 4294967296
  pr : Int
  fl : Int
  tt : Int
  an : Bool
  db : Bool
  bk : Int
  fr : Fin 4294967296
  ki : Int
  co : Int
  le : Int
  id : Int
  qu : Int
deriving DecidableEq
theorem wrap_fin (x : Fin 4294967296) : IntKind.i64.wrap (x.val : Int) = (x.val : Int) := Yk (by have := x.isLt; omega) (by have := x.isLt; omega)
def rs0 : Rs := ⟨0, 0, 0, 0, 0, 0, 0, 0, false, false, 0, 0, 0, 0, 0, 0, 0⟩
instance : Inhabited Rs := ⟨rs0⟩
def rsA (r : Rs) : List Am := [.i .i64 r.va, .i .i64 r.ru, .i .i64 r.nu, .i .i64 r.tm, .i .u32 r.dst.val, .i .i64 r.pr, .i .i64 r.fl, .i .i64 r.tt, .b r.an, .b r.db, .i .i64 r.bk]
def anA (r : Rs) : List Am := [.i .u32 r.fr.val, .i .i64 r.ki, .i .i64 r.co, .i .i64 r.le, .i .i64 r.id, .i .i64 r.qu]
abbrev rsCs (r : Rs) : List CT := [intC r.va, intC r.ru, intC r.nu, intC r.tm, adrC r.dst.val, intC r.pr, intC r.fl, intC r.tt, boolC r.an, boolC r.db, intC r.bk, adrC r.fr.val, intC r.ki, intC r.co, intC r.le, intC r.id, intC r.qu]
abbrev rsC (r : Rs) : CT := .fr (aggT (rsCs r))
abbrev rssC (l : List Rs) : CT := .fr (sliceT 17 (l.map rsCs))
def rss (l : List Rs) : List CT := (l.map rsCs).flatten
def rsV (r : Rs) : List Value := [.int .i64 r.va, .int .i64 r.ru, .int .i64 r.nu, .int .i64 r.tm, .int .u32 r.dst.val, .int .i64 r.pr, .int .i64 r.fl, .int .i64 r.tt, .bool r.an, .bool r.db, .int .i64 r.bk, .int .u32 r.fr.val, .int .i64 r.ki, .int .i64 r.co, .int .i64 r.le, .int .i64 r.id, .int .i64 r.qu]
theorem rs_len (r : Rs) : (rsCs r).length = 17 := rfl
theorem Zz (e : Nat) (l : List Rs) : (Ent.row e 17 (rss l)).frozen (sliceT 17 (l.map rsCs)) :=
  ⟨_, rfl, fun e he => by obtain ⟨m, _, rfl⟩ := List.mem_map.mp he; rfl, by decide, rfl⟩
theorem Xa {l : List Rs} {j : Int} (h0 : 0 ≤ j) (h : j < (l.length : Int)) : (l.map rsCs)[j.toNat]? = some (rsCs (l.getD j.toNat rs0)) := by
  have : j.toNat < l.length := by omega
  simp [List.getElem?_map, List.getElem?_eq_getElem this, List.getD_eq_getElem?_getD]
theorem X1 (l : List Rs) : (rss l).length = l.length * 17 := el_len rs_len l
theorem rss_app (l m : List Rs) : rss (l ++ m) = rss l ++ rss m := by simp [rss]
theorem rsA_inj {x y : Rs} : (rsA x = rsA y ∧ anA x = anA y) ↔ x = y := by
  obtain ⟨a1, a2, a3, a4, a5, a6, a7, a8, a9, a10, a11, a12, a13, a14, a15, a16, a17⟩ := x
  obtain ⟨b1, b2, b3, b4, b5, b6, b7, b8, b9, b10, b11, b12, b13, b14, b15, b16, b17⟩ := y
  simp only [rsA, anA, List.cons.injEq, Am.i.injEq, Am.b.injEq, true_and, and_true, Rs.mk.injEq, Int.ofNat_inj, Fin.val_inj]
  constructor
  · rintro ⟨⟨h1, h2, h3, h4, h5, h6, h7, h8, h9, h10, h11⟩, h12, h13, h14, h15, h16, h17⟩
    exact ⟨h1, h2, h3, h4, h5, h6, h7, h8, h9, h10, h11, h12, h13, h14, h15, h16, h17⟩
  · rintro ⟨h1, h2, h3, h4, h5, h6, h7, h8, h9, h10, h11, h12, h13, h14, h15, h16, h17⟩
    exact ⟨⟨h1, h2, h3, h4, h5, h6, h7, h8, h9, h10, h11⟩, h12, h13, h14, h15, h16, h17⟩
theorem szRes : (Tryz.prog.info? 35).map (·.size) = some 17 := by kernel_rfl
theorem szAns : (Tryz.prog.info? 33).map (·.size) = some 6 := by kernel_rfl
theorem lRes : LdN Tryz.prog 35 17 := LdN.of _ Tryz.underlying35 rfl (by kernel_rfl)
theorem lAns : LdN Tryz.prog 33 6 := LdN.of _ Tryz.underlying33 rfl (by kernel_rfl)
abbrev zRes : Value := .agg #[.int .i64 0, .int .i64 0, .int .i64 0, .int .i64 0, .int .u32 0, .int .i64 0, .int .i64 0, .int .i64 0, .bool false, .bool false, .int .i64 0, .int .u32 0, .int .i64 0, .int .i64 0, .int .i64 0, .int .i64 0, .int .i64 0]
theorem zvRes : (Tryz.prog.info? 35).map (·.zero) = some (some zRes) := by kernel_rfl
theorem zvAns : (Tryz.prog.info? 33).map (·.zero) = some (some (.agg #[.int .u32 0, .int .i64 0, .int .i64 0, .int .i64 0, .int .i64 0, .int .i64 0])) := by kernel_rfl
theorem sRes : SlcT Tryz.prog 29 35 17 128 zRes := SlcT.of Tryz.underlying29 (by kernel_rfl) rfl (by decide)
theorem bRes : bInfo Tryz.prog 35 = some (zRes, [(0, some 1), (1, some 1), (2, some 1), (3, some 1), (4, some 1), (5, some 1), (6, some 1), (7, some 1), (8, some 1), (9, some 1), (10, some 1), (11, some 6)]) := by kernel_rfl
theorem bAns : bInfo Tryz.prog 33 = some (.agg #[.int .u32 0, .int .i64 0, .int .i64 0, .int .i64 0, .int .i64 0, .int .i64 0], [(0, some 1), (1, some 1), (2, some 1), (3, some 1), (4, some 1), (5, some 1)]) := by kernel_rfl
theorem fS0 : fldInfo Tryz.prog 35 0 = some (0, some 1) := by kernel_rfl
theorem fS1 : fldInfo Tryz.prog 35 1 = some (1, some 1) := by kernel_rfl
theorem fS2 : fldInfo Tryz.prog 35 2 = some (2, some 1) := by kernel_rfl
theorem fS3 : fldInfo Tryz.prog 35 3 = some (3, some 1) := by kernel_rfl
theorem fS4 : fldInfo Tryz.prog 35 4 = some (4, some 1) := by kernel_rfl
theorem fS5 : fldInfo Tryz.prog 35 5 = some (5, some 1) := by kernel_rfl
theorem fS6 : fldInfo Tryz.prog 35 6 = some (6, some 1) := by kernel_rfl
theorem fS7 : fldInfo Tryz.prog 35 7 = some (7, some 1) := by kernel_rfl
theorem fS8 : fldInfo Tryz.prog 35 8 = some (8, some 1) := by kernel_rfl
theorem fS9 : fldInfo Tryz.prog 35 9 = some (9, some 1) := by kernel_rfl
theorem fS10 : fldInfo Tryz.prog 35 10 = some (10, some 1) := by kernel_rfl
theorem fS11 : fldInfo Tryz.prog 35 11 = some (11, some 6) := by kernel_rfl
theorem fN0 : fldInfo Tryz.prog 33 0 = some (0, some 1) := by kernel_rfl
theorem fN1 : fldInfo Tryz.prog 33 1 = some (1, some 1) := by kernel_rfl
theorem fN2 : fldInfo Tryz.prog 33 2 = some (2, some 1) := by kernel_rfl
theorem fN3 : fldInfo Tryz.prog 33 3 = some (3, some 1) := by kernel_rfl
theorem fN4 : fldInfo Tryz.prog 33 4 = some (4, some 1) := by kernel_rfl
theorem fN5 : fldInfo Tryz.prog 33 5 = some (5, some 1) := by kernel_rfl
theorem Q6 : Ld1 Tryz.prog 4 := Ld1.of _ Tryz.underlying4 rfl
theorem zBool1 : (Tryz.prog.info? 4).map (·.size) = some 1 := by kernel_rfl
theorem eRes : EqN Tryz.prog 35 33 [.int .i64, .int .i64, .int .i64, .int .i64, .int .u32, .int .i64, .int .i64, .int .i64, .bool, .bool, .int .i64] [.int .u32, .int .i64, .int .i64, .int .i64, .int .i64, .int .i64] :=
  ⟨by kernel_rfl, by kernel_rfl, by kernel_rfl, by kernel_rfl, by kernel_rfl, by kernel_rfl, by kernel_rfl, by kernel_rfl, by kernel_rfl⟩
def rsT : Tb := ⟨[(35, 0, 0), (35, 1, 1), (35, 2, 2), (35, 3, 3), (35, 4, 4), (35, 5, 5), (35, 6, 6), (35, 7, 7), (35, 8, 8), (35, 9, 9), (35, 10, 10), (35, 11, 11), (33, 0, 0), (33, 1, 1), (33, 2, 2), (33, 3, 3), (33, 4, 4), (33, 5, 5)], [3, 27, 4], [(27, 3, .i64)], [173]⟩
theorem rsT_ok : rsT.ok Tryz.prog := by
  refine ⟨fun p hp => ?_, fun t ht => ?_, fun p hp => ?_, fun t ht => ?_⟩
  · simp only [rsT, List.mem_cons, List.not_mem_nil, or_false] at hp
    rcases hp with rfl | rfl | rfl | rfl | rfl | rfl | rfl | rfl | rfl | rfl | rfl | rfl | rfl | rfl | rfl | rfl | rfl | rfl
    · exact ⟨0, fS0⟩
    · exact ⟨0, fS1⟩
    · exact ⟨0, fS2⟩
    · exact ⟨0, fS3⟩
    · exact ⟨0, fS4⟩
    · exact ⟨0, fS5⟩
    · exact ⟨0, fS6⟩
    · exact ⟨0, fS7⟩
    · exact ⟨0, fS8⟩
    · exact ⟨0, fS9⟩
    · exact ⟨0, fS10⟩
    · exact ⟨5, fS11⟩
    · exact ⟨0, fN0⟩
    · exact ⟨0, fN1⟩
    · exact ⟨0, fN2⟩
    · exact ⟨0, fN3⟩
    · exact ⟨0, fN4⟩
    · exact ⟨0, fN5⟩
  · simp only [rsT, List.mem_cons, List.not_mem_nil, or_false] at ht
    rcases ht with rfl | rfl | rfl
    · exact lInt
    · exact Q9
    · exact Q6
  · simp only [rsT, List.mem_cons, List.not_mem_nil, or_false] at hp
    subst hp
    exact ⟨⟨_, uAddr⟩, uInt'⟩
  · simp only [rsT, List.mem_cons, List.not_mem_nil, or_false] at ht
    subst ht
    exact ⟨_, _, _, Zm⟩
section
variable {X : Ctx} {L : AL} {B : BL} {ops : Array Oper} {K : Act → World → Prop} {r : Pl} {k : Kd}
  {x y : Operand} {d : Nat} {t t2 t' : TypeId} {pos : String} {af : Array Edge} {g : Option (Nat × Bool)}
theorem eqRs (p q : Rs) (hg : gd ops L g = some true) (hx : ev L x = some (.ct (rsC p))) (hy : ev L y = some (.ct (rsC q))) (hP : X.P = Tryz.prog) (hn : Nat.blt d X.n = true)
    (h : Ops X ops r ((d, .ct (boolC (decide (p = q)))) :: L) B K) : Ops X ops (.cons ⟨some d, .binOp .eql 35 x y t2, t', pos, af, g⟩ k r) L B K :=
  Ops.eqN (rsA p) (anA p) (rsA q) (anA q) hg hx hy rfl rfl rfl rfl (hP ▸ eRes) hn (by rw [decide_eq_decide.2 rsA_inj]; exact h)
theorem neRs (p q : Rs) (hg : gd ops L g = some true) (hx : ev L x = some (.ct (rsC p))) (hy : ev L y = some (.ct (rsC q))) (hP : X.P = Tryz.prog) (hn : Nat.blt d X.n = true)
    (h : Ops X ops r ((d, .ct (boolC (!decide (p = q)))) :: L) B K) : Ops X ops (.cons ⟨some d, .binOp .neq 35 x y t2, t', pos, af, g⟩ k r) L B K :=
  Ops.neN (rsA p) (anA p) (rsA q) (anA q) hg hx hy rfl rfl rfl rfl (hP ▸ eRes) hn (by rw [decide_eq_decide.2 rsA_inj]; exact h)
end
end Go.Proofs.YtlkdkbdgnjcopaaGreat
namespace Go.Own
open Go.RowKit
variable {X : Ctx} {L : AL} {B : BL} {ops : Array Oper} {K : Act → World → Prop} {r : Pl} {k : Kd}
  {x y z : Operand} {d : Nat} {t t2 t' : TypeId} {pos : String} {af : Array Edge} {g : Option (Nat × Bool)}
theorem YQ {el n bytes gb m c q cq : Nat} {zv : Value} {kk : IntKind} {j : Int} {cs : List CT} (e p : Nat) (hg : gd ops L g = some true) (hx : ev L x = some (.ct (.ex (kh gb (p * n) q cq)))) (hi : bget B e = some (.rowx (kh gb 0 m c) el n cs)) (hy : ev L y = some (.ct (.ex (.int kk j)))) (hT : SlcT X.P t el n bytes zv) (h0 : 0 ≤ j) (hj : j < q)
    (hn : Nat.blt d X.n = true) (h : Ops X ops r ((d, .loc e ((p + j.toNat) * n)) :: L) B K) : Ops X ops (.cons ⟨some d, .indexAddr t x y, t', pos, af, g⟩ k r) L B K :=
  XW (s := .loc e ((p + j.toNat) * n)) hg rfl hn (fun a ρ w hI => by
    have h1 : a.eval x = kh gb (p * n) q cq := hI.evx hx
    have h2 : ρ e = kh gb 0 m c := (hI.ent e _ hi).1.1
    obtain ⟨nf, hi2, hs, _⟩ := hT.inf
    refine ⟨.pointer (some ⟨gb, (p + j.toNat) * n, none⟩), fun w' _ => ?_, gb, by rw [h2]; rfl, rfl⟩
    show (do pure (Next.value (← Instr.indexAt t (a.eval x) (a.eval y))) : Sem Next).run X.P w' = _
    rw [h1, hI.evx hy]
    refine X9 ?_
    rw [run_index hT.und hi2 h0 (by omega), hs, ← Nat.add_mul]) h
theorem St.nameS {c' : Code} {Q : Exit → Act → World → Prop} (dd i m : Nat) {el n : Nat} {cs : List CT} (hd : look L dd = some (.own i)) (hi : bget B i = some (.row el n cs)) (hl : cs.length = m * n) (hm : 0 < m) (hp : 0 < n)
    (h : ∀ gb c, m ≤ c → c ≤ maxLen → St X ((dd, .ct (.ex (kh gb 0 m c))) :: L) (bset B i (.rowx (kh gb 0 m c) el n cs)) c' Q) : St X L B c' Q := Fin.nameS dd i m hd hi hl hm hp h
theorem Is.cutOff {a : Act} {ρ : Nat → Value} {w : World} (hI : Is X L B a ρ w) {i gb m c el n : Nat} {cs : List CT} (q : Nat) (hi : bget B i = some (.rowx (kh gb 0 m c) el n cs)) (hl : cs.length = m * n) (hp : 0 < n) (hq : q ≤ m) :
    Is X (Own.killL i L) (bset B i (.rowx (kh gb 0 q c) el n (cs.take (q * n)))) a (upd ρ i (kh gb 0 q c)) w := by
  obtain ⟨hρ, vs, cur, hc, hlv, hgb, hmc, hcm, hcz, htk⟩ := hI.rowK hi hl hp
  have hjn : q * n ≤ m * n := Nat.mul_le_mul_right _ hq
  have hW := Is.write (i := i) (v := kh gb 0 q c) (e' := .rowx (kh gb 0 q c) el n (cs.take (q * n))) (w' := w) (hI.killL i) hi rfl rfl rfl (Nat.le_refl _) (fun _ _ _ => rfl) (.inl (by rw [hρ]; rfl))
    (fun S' hk => ⟨rfl, q, vs.take (q * n), ⟨by rw [List.length_take, hlv]; omega, .inr ⟨gb, c, cur, rfl, Nat.zero_le _, hgb, by omega, hcm, hcz, by rw [← htk, List.take_take]; congr 1; omega⟩⟩, (hc.take _).mono hk⟩) (.inr (noN_killL i L)) (.inr rfl)
  exact hW.bext (Xg hi)
theorem Ops.cutOff {l : Pl} {gb m c el n : Nat} {cs cs' : List CT} (i q : Nat) (hi : bget B i = some (.rowx (kh gb 0 m c) el n cs)) (hl : cs.length = m * n) (hp : 0 < n) (hq : q ≤ m) (hcs : cs.take (q * n) = cs')
    (h : Ops X ops l (killL i L) (bset B i (.rowx (kh gb 0 q c) el n cs')) K) : Ops X ops l L B K := fun a ρ w hI => by
  subst hcs
  exact h a (upd ρ i (kh gb 0 q c)) w (hI.cutOff q hi hl hp hq)
theorem stEX {α : Type} {n i j el : Nat} {v0 : Value} {l : List α} (f : α → List CT) (c : α) (hf : ∀ a, (f a).length = n) (hg : gd ops L g = some true) (hx : ev L x = some (.loc i (j * n))) (hi : bget B i = some (.rowx v0 el n ((l.map f).flatten))) (hy : ev L y = some (.ct (.fr (aggT (f c))))) (ho : ones (f c) = true) (hj : j < l.length) (hsz : (X.P.info? t).map (·.size) = some n)
    (h : Ops X ops r L (bset B i (.rowx v0 el n (((l.set j c).map f).flatten))) K) : Ops X ops (.cons ⟨none, .store t x y, t', pos, af, g⟩ .any r) L B K :=
  Ops.stNA hg hx hi hy ho (by rw [hsz, hf]) (by show j * n + (f c).length ≤ _; rw [hf]; show _ ≤ (l.map f).flatten.length; rw [el_len hf, ← Nat.succ_mul]; exact Nat.mul_le_mul_right _ hj) (by
    have : (Ent.rowx v0 el n ((l.map f).flatten)).putc (j * n) (f c) = .rowx v0 el n (((l.set j c).map f).flatten) := by rw [← el_put hf c hj]; rfl
    rw [this]; exact h)
end Go.Own
namespace Go.Own
open Go.RowKit
variable {X : Ctx} {L : AL} {B : BL} {ops : Array Oper} {K : Act → World → Prop}
theorem Fin.linkX (dd i : Nat) {v : Value} {el n : Nat} {cs : List CT} (hd : look L dd = some (.ct (.ex v))) (hi : bget B i = some (.rowx v el n cs)) (h : Fin X ((dd, .own i) :: L) B K) : Fin X L B K := fun a ρ w hI => by
  have h1 : a.tmps.getD dd undef = v := hI.slot dd _ hd
  obtain ⟨h2, _⟩ := (hI.ent i _ hi).1
  exact h a ρ w (hI.slotx (s := .own i) (h1.trans h2.symm))
theorem Ops.linkX {l : Pl} (dd i : Nat) {v : Value} {el n : Nat} {cs : List CT} (hd : look L dd = some (.ct (.ex v))) (hi : bget B i = some (.rowx v el n cs)) (h : Ops X ops l ((dd, .own i) :: L) B K) : Ops X ops l L B K := Fin.linkX dd i hd hi h
theorem OkB.weak {P : Program} {f : FuncId} {t : TypeId} {cs As : List CT} {α β : Type} {J : α → Prop} {R : α → CT} {D : α → List CT} {J' : β → Prop} {R' : β → CT} {D' : β → List CT} (h : OkB P f t cs As J R D) (hw : ∀ q, J q → ∃ q', J' q' ∧ R q = R' q' ∧ D q = D' q') : OkB P f t cs As J' R' D' := fun S w g us vs h1 h2 h3 h4 h5 =>
  Calls.mono (h S w g us vs h1 h2 h3 h4 h5) (by
    rintro e w' ⟨v, q, he, hJ, hR, hD, hF⟩
    obtain ⟨q', a, b, c⟩ := hw q hJ
    exact ⟨v, q', he, a, b ▸ hR, c ▸ hD, hF⟩)
end Go.Own
namespace Go.Proofs.YtlkdkbdgnjcopaaGreat
open Go.Own
attribute [local irreducible] St Ops Go.Own.Fin Ok OkB OkN OkT OkL OkF wpR
abbrev Ad := Fin 4294967296
theorem sAdrs : SlcT Tryz.prog 28 27 1 4 (.int .u32 0) := SlcT.of Tryz.underlying28 (by kernel_rfl) rfl (by decide)
theorem sPths : SlcT Tryz.prog 111 28 1 24 (.slice none 0 0) := SlcT.of Tryz.underlying111 (by kernel_rfl) rfl (by decide)
theorem lAdrs : Ld1 Tryz.prog 28 := Ld1.of _ Tryz.underlying28 rfl
theorem lPths : Ld1 Tryz.prog 111 := Ld1.of _ Tryz.underlying111 rfl
theorem zPths : (Tryz.prog.info? 111).map (·.size) = some 1 := by kernel_rfl
abbrev zNet : Value := .agg #[.int .i64 0, .int .u32 0, .int .i64 0, .slice none 0 0, .int .u32 0]
theorem sNets : SlcT Tryz.prog 115 113 5 56 zNet := SlcT.of Tryz.underlying115 (by kernel_rfl) rfl (by decide)
theorem lNet : LdN Tryz.prog 113 5 := LdN.of _ Tryz.underlying113 rfl (by kernel_rfl)
theorem szNet : (Tryz.prog.info? 113).map (·.size) = some 5 := by kernel_rfl
theorem zvNet : (Tryz.prog.info? 113).map (·.zero) = some (some zNet) := by kernel_rfl
theorem bNet : bInfo Tryz.prog 113 = some (zNet, [(0, some 3), (3, some 1), (4, some 1)]) := by kernel_rfl
theorem fH0 : fldInfo Tryz.prog 113 0 = some (0, some 3) := by kernel_rfl
theorem fH1 : fldInfo Tryz.prog 113 1 = some (3, some 1) := by kernel_rfl
theorem fH2 : fldInfo Tryz.prog 113 2 = some (4, some 1) := by kernel_rfl
abbrev adrsC (p : List Ad) : CT := .fr (sliceT 1 (p.map fun x => [adrF x]))
def adrs (p : List Ad) : List CT := p.map adrF
theorem adrs_frozen (e : Nat) (p : List Ad) : (Ent.row e 1 (adrs p)).frozen (sliceT 1 (p.map fun x => [adrF x])) :=
  ⟨p.map fun x => [adrF x], (flat_one adrF p).symm, by simp, by decide, rfl⟩
theorem adrs_at {p : List Ad} {j : Int} (h0 : 0 ≤ j) (h : j < (p.length : Int)) : (p.map fun x => [adrF x])[j.toNat]? = some [adrF (p.getD j.toNat 0)] := by
  have hl : j.toNat < p.length := by omega
  rw [List.getElem?_map, List.getElem?_eq_getElem hl, List.getD_eq_getElem?_getD, List.getElem?_eq_getElem hl]; rfl
abbrev pthsC (ps : List (List Ad)) : CT := .fr (sliceT 1 (ps.map fun p => [adrsC p]))
def pths (ps : List (List Ad)) : List CT := ps.map adrsC
theorem pths_len (ps : List (List Ad)) : (pths ps).length = ps.length * 1 := by simp [pths]
theorem pths_frozen (e : Nat) (ps : List (List Ad)) : (Ent.row e 1 (pths ps)).frozen (sliceT 1 (ps.map fun p => [adrsC p])) :=
  ⟨ps.map fun x => [adrsC x], (flat_one adrsC ps).symm, by simp, by decide, rfl⟩
theorem pths_at {ps : List (List Ad)} {j : Int} (h0 : 0 ≤ j) (h : j < (ps.length : Int)) : (ps.map fun x => [adrsC x])[j.toNat]? = some [adrsC (ps.getD j.toNat [])] := by
  have hl : j.toNat < ps.length := by omega
  rw [List.getElem?_map, List.getElem?_eq_getElem hl, List.getD_eq_getElem?_getD, List.getElem?_eq_getElem hl]; rfl
theorem pths_get {ps : List (List Ad)} (h : 0 < ps.length) : (pths ps)[0]? = some (adrsC (ps.getD 0 [])) := by
  cases ps with
  | nil => simp at h
  | cons p q => rfl
structure Nt where
  va : Int
  ds : Ad
  pr : Int
  ps : List (List Ad)
  la : Ad
abbrev ntCs (q : Nt) : List CT := [intC q.va, adrF q.ds, intC q.pr, pthsC q.ps, adrF q.la]
structure NtIn (q : Nt) : Prop where
  v0 : 0 ≤ q.va
  v1 : q.va < 2
  l0 : 1 ≤ q.ps.length
  l1 : q.ps.length ≤ 3
  pl : ∀ p ∈ q.ps, 1 ≤ p.length ∧ p.length ≤ 3
def nts (l : List Nt) : List CT := (l.map ntCs).flatten
theorem nts_len (l : List Nt) : (nts l).length = l.length * 5 := el_len (f := ntCs) (n := 5) (fun _ => rfl) l
theorem mem_snocG {α : Type} {P : α → Prop} {xs : List α} {x : α} (h : ∀ y ∈ xs, P y) (hx : P x) : ∀ y ∈ xs ++ [x], P y := fun y hy => by
  rcases List.mem_append.1 hy with h1 | h1
  · exact h y h1
  · rcases List.mem_singleton.1 h1 with rfl; exact hx
theorem dAddr_ok (bs : List Int) (p : Nat) (hb : Bytes bs) : OkB Tryz.prog 23 78 (codes bs p) [] (fun _ : Ad × Nat => True) (fun q => adrF q.1) (fun q => codes bs q.2) :=
  (Address_ok bs p hb).weak fun q hq => ⟨(⟨q.1.toNat, by omega⟩, q.2), trivial, by
    show adrC q.1 = adrC ((q.1.toNat : Nat) : Int)
    rw [Int.toNat_of_nonneg hq.1], rfl⟩
theorem goScene : InGo Tryz.prog 57 := InGo.of Tryz.func57 rfl (by decide)
set_option maxHeartbeats 8000000 in
theorem scene_ok (bs : List Int) (p : Nat) (hb : Bytes bs) : OkB Tryz.prog 57 78 (codes bs p) [] (fun q : Nt × Nat => NtIn q.1) (fun q => .fr (aggT (ntCs q.1))) (fun q => codes bs q.2) := by
  refine OkB.enter Tryz.func57 rfl _ Tryz.ntmps57 rfl ?_
  intro S w g
  (refine Qw (Qx fun K hK => ?_); refine Qh 1 rfl rfl (by with_reducible exact zvNet) rfl rfl rfl ?_; refine Qj (hK _ _ (Qz (Qw ?_))); clear hK K; refine Qx (fun K hK => ?_); refine Qq rfl rfl rfl ?_)
  refine Xw goTrace (Trace_ok bs p hb) rfl rfl rfl rfl rfl (fun q hq => ?_)
  obtain ⟨va, ds, pr, p1⟩ := q
  dsimp only at hq ⊢
  refine Xq rfl (by with_reducible exact bNet) rfl (.agg rfl rfl rfl rfl .nil) rfl ?_
  (refine Qh 2 rfl rfl (by with_reducible exact zvNet) rfl rfl rfl ?_; refine Qe 5 rfl rfl rfl rfl rfl (by with_reducible exact szNet) rfl rfl ?_; refine Qj (hK _ _ (Qz (Qw ?_))); clear hK K; refine Qx (fun K hK => ?_); refine QV rfl rfl rfl (by with_reducible first | exact fH0 | exact fH1 | exact fH2 | exact fS0 | exact fS1 | exact fS2 | exact fS3 | exact fS4 | exact fS5 | exact fS6 | exact fS7 | exact fS8 | exact fS9 | exact fS10 | exact fS11) rfl ?_; refine X2 rfl rfl (by with_reducible first | exact fR0t | exact fR1t | exact fR2t | exact fN0 | exact fN1 | exact fN4) rfl ?_; refine QJ rfl rfl rfl rfl rfl (by with_reducible first | exact lInt | exact Q9 | exact lAdrs | exact lPths | exact Q6) rfl ?_; refine QV rfl rfl rfl (by with_reducible first | exact fH0 | exact fH1 | exact fH2 | exact fS0 | exact fS1 | exact fS2 | exact fS3 | exact fS4 | exact fS5 | exact fS6 | exact fS7 | exact fS8 | exact fS9 | exact fS10 | exact fS11) rfl ?_; refine Xh rfl rfl rfl rfl rfl (by with_reducible first | exact zAddr | exact zInt | exact zPths | exact zBool1) (Nat.le_of_ble_eq_true rfl) ?_; refine Qj (hK _ _ (Qz (Qw (Qw ?_)))); clear hK K; refine Qx (fun K hK => ?_); refine Qq rfl rfl rfl ?_)
  refine Xw goBool (BoolB_ok bs p1 4 (by decide) (by decide) hb) rfl rfl rfl rfl rfl (fun q _ => ?_)
  obtain ⟨b1, p2⟩ := q
  dsimp only
  (refine Qj (hK _ _ (Qz ?_)); clear hK K)
  refine ZV (α := Ad × Nat) (fun _ => True) (fun _ => [(0, .own 0), (2, .own 1), (3, .own 2)]) (fun x => [(2, .box 113 [intC va, adrF ds, intC pr, .ex (.slice none 0 0), adrF x.1]), (1, .box 113 (zNet.cells.toList.map CT.ex)), (0, .box 78 (codes bs x.2))]) (fun x _ => ?_) (fun KK hN => ?_)
  rotate_left
  · refine XX rfl (fun _ => ?_) (fun _ => ?_)
    · (refine Qx (fun K hK => ?_); refine Qq rfl rfl rfl ?_)
      refine Xw goAddress (dAddr_ok bs p2 hb) rfl rfl rfl rfl rfl (fun q _ => ?_)
      obtain ⟨a, p3⟩ := q
      dsimp only
      (refine QV rfl rfl rfl (by with_reducible first | exact fH0 | exact fH1 | exact fH2 | exact fS0 | exact fS1 | exact fS2 | exact fS3 | exact fS4 | exact fS5 | exact fS6 | exact fS7 | exact fS8 | exact fS9 | exact fS10 | exact fS11) rfl ?_; refine Xh rfl rfl rfl rfl rfl (by with_reducible first | exact zAddr | exact zInt | exact zPths | exact zBool1) (Nat.le_of_ble_eq_true rfl) ?_; refine Qj (hK _ _ ?_); clear hK K)
      exact Qt hN (a, p3) trivial (by exact Qu rfl ⟨rfl, rfl, rfl, trivial⟩)
    · (refine Q1 ?_)
      exact Qt hN (ds, p2) trivial (by exact Qu rfl ⟨rfl, rfl, rfl, trivial⟩)
  obtain ⟨la, p4⟩ := x
  dsimp only
  (refine Qw (Qx fun K hK => ?_); refine Qq rfl rfl rfl ?_)
  refine Xw goNext (Next_ok bs p4 3 (by decide) (by decide) hb) rfl rfl rfl rfl rfl (fun q hq2 => ?_)
  obtain ⟨lo, p5⟩ := q
  dsimp only at hq2 ⊢
  (refine Qk (iadd (by omega) (by omega)) rfl rfl rfl rfl ?_; refine Qv rfl rfl rfl ?_; refine Qj (hK _ _ (Qz (Qw (Qw ?_)))); clear hK K; refine Qx (fun K hK => ?_); refine Qv rfl rfl rfl ?_; refine Qj (hK _ _ (Qz (Q4 ?_))); clear hK K)
  refine St.nilX 3 28 1 rfl rfl ?_
  refine Xz (α := Int × List (List Ad) × Value × Nat) (fun x => x.1 = x.2.1.length ∧ x.2.1.length ≤ 3 ∧ (∀ q ∈ x.2.1, 1 ≤ q.length ∧ q.length ≤ 3) ∧ x.2.2.1.oneCell' = true)
    (fun x => [(0, .own 0), (2, .own 1), (3, .own 2), (4, .ct (intC (1 + lo))), (5, .ct (intC x.1))])
    (fun x => [(3, .rowx x.2.2.1 28 1 (pths x.2.1)), (2, .box 113 [intC va, adrF ds, intC pr, .ex x.2.2.1, adrF la]), (1, .box 113 (zNet.cells.toList.map CT.ex)), (0, .box 78 (codes bs x.2.2.2))])
    (fun x => 3 - x.2.1.length) (0, [], .slice none 0 0, p5) ⟨rfl, by simp, by simp, rfl⟩ (by exact Qu rfl ⟨rfl, rfl, rfl, rfl, rfl, trivial⟩) ?_
  rintro ⟨f, ps, v, p6⟩ ⟨hf, hfl, hps, hv⟩
  dsimp only at hf hfl hps hv ⊢
  (refine Qw (Qw (Qx fun K hK => ?_)); refine Qq rfl rfl rfl ?_; refine Qq rfl rfl rfl ?_)
  refine Xw goNext (Next_ok bs p6 3 (by decide) (by decide) hb) rfl rfl rfl rfl rfl (fun q hq3 => ?_)
  obtain ⟨x, p7⟩ := q
  dsimp only at hq3 ⊢
  (refine Qk (iadd (by omega) (by omega)) rfl rfl rfl rfl ?_; refine Qk ilss rfl rfl rfl rfl ?_; refine Qj (hK _ _ (Qz ?_)); clear hK K)
  refine Q2 rfl (fun hk => ?_) (fun hk => ?_)
  · (refine Q1 (Qz (Qw (Q4 (Qw (Qx fun K hK => ?_))))); refine Qv rfl rfl rfl ?_; refine Qj (hK _ _ (Qz (Qw (Qw ?_)))); clear hK K; refine Qx (fun K hK => ?_); refine Qv rfl rfl rfl ?_; refine Qj (hK _ _ (Qz (Q4 ?_))); clear hK K)
    refine Xf 6 4 27 1 rfl rfl rfl ?_
    skip
    refine Xz (α := Int × List Ad × Nat) (fun x => 0 ≤ x.1 ∧ x.2.1.length = x.1 ∧ x.1 ≤ 1 + lo)
      (fun x => [(0, .own 0), (2, .own 1), (3, .own 2), (4, .ct (intC (1 + lo))), (5, .ct (intC f)), (6, .own 4), (7, .ct (intC x.1))])
      (fun x => [(4, .row 27 1 (adrs x.2.1)), (3, .rowx v 28 1 (pths ps)), (2, .box 113 [intC va, adrF ds, intC pr, .ex v, adrF la]), (1, .box 113 (zNet.cells.toList.map CT.ex)), (0, .box 78 (codes bs x.2.2))])
      (fun x => (1 + lo - x.1).toNat) (0, [], p7) ⟨by dsimp only; omega, rfl, by dsimp only; omega⟩ (by exact Qu rfl ⟨rfl, rfl, rfl, rfl, rfl, rfl, rfl, trivial⟩) ?_
    rintro ⟨i, pp, p8⟩ ⟨hi0, hil, hi1⟩
    dsimp only at hi0 hil hi1 ⊢
    (refine Qw (Qw (Qx fun K hK => ?_)); refine Qq rfl rfl rfl ?_; refine Qq rfl rfl rfl ?_; refine Qk ilss rfl rfl rfl rfl ?_; refine Qj (hK _ _ (Qz ?_)); clear hK K)
    refine Q2 rfl (fun hi => ?_) (fun hi => ?_)
    · (refine Q1 (Qz (Qw (Q4 (Qw (Qx fun K hK => ?_))))); refine Qq rfl rfl rfl ?_)
      refine Xw goAddress (dAddr_ok bs p8 hb) rfl rfl rfl rfl rfl (fun q _ => ?_)
      obtain ⟨a0, p9⟩ := q
      dsimp only
      (refine Qv rfl rfl rfl ?_; refine Qj (hK _ _ (Qz (Qw (Qw ?_)))); clear hK K; refine Qx (fun K hK => ?_); refine Qq rfl rfl rfl ?_)
      refine Xw goBool (BoolB_ok bs p9 6 (by decide) (by decide) hb) rfl rfl rfl rfl rfl (fun q _ => ?_)
      obtain ⟨b2, p10⟩ := q
      dsimp only
      (refine Qj (hK _ _ (Qz ?_)); clear hK K)
      refine ZV (α := Ad) (fun _ => True) (fun a => [(0, .own 0), (2, .own 1), (3, .own 2), (4, .ct (intC (1 + lo))), (5, .ct (intC f)), (6, .own 4), (7, .ct (intC i)), (8, .ct (adrF a))])
        (fun _ => [(4, .row 27 1 (adrs pp)), (3, .rowx v 28 1 (pths ps)), (2, .box 113 [intC va, adrF ds, intC pr, .ex v, adrF la]), (1, .box 113 (zNet.cells.toList.map CT.ex)), (0, .box 78 (codes bs p10))]) (fun a _ => ?_) (fun KK hN => ?_)
      rotate_left
      · refine XX rfl (fun _ => ?_) (fun _ => ?_)
        · (refine Qx (fun K hK => ?_); refine Qv rfl rfl rfl ?_; refine Qj (hK _ _ ?_); clear hK K)
          exact Qt hN 0 trivial (by exact Qu rfl ⟨rfl, rfl, rfl, rfl, rfl, rfl, rfl, rfl, trivial⟩)
        · (refine Q1 ?_)
          exact Qt hN a0 trivial (by exact Qu rfl ⟨rfl, rfl, rfl, rfl, rfl, rfl, rfl, rfl, trivial⟩)
      (refine Qw (Qw (Qx fun K hK => ?_)); refine Qq rfl rfl rfl ?_; refine Qk igtr rfl rfl rfl rfl ?_; refine Qq rfl rfl rfl ?_)
      refine Q5 42 (p := 0 < f) rfl (fun h0 => ?_) (fun h0 => ?_)
      · have hp0 : 0 < ps.length := by omega
        (refine Qq rfl rfl rfl ?_; refine QV rfl rfl rfl (by with_reducible first | exact fH0 | exact fH1 | exact fH2 | exact fS0 | exact fS1 | exact fS2 | exact fS3 | exact fS4 | exact fS5 | exact fS6 | exact fS7 | exact fS8 | exact fS9 | exact fS10 | exact fS11) rfl ?_; refine QJ rfl rfl rfl rfl rfl (by with_reducible first | exact lInt | exact Q9 | exact lAdrs | exact lPths | exact Q6) rfl ?_)
        refine Ops.linkX 45 3 rfl rfl ?_
        refine Ops.idxX ps.length rfl rfl rfl (pths_len ps) rfl (by with_reducible exact sPths) (by decide) (by omega) rfl ?_
        refine QJ rfl rfl rfl rfl (pths_get hp0) (by with_reducible exact lAdrs) rfl ?_
        (refine Qd rfl rfl (by with_reducible first | exact sAdrs.und | exact sPths.und | exact sRes.und) (List.length_map ..) rfl ?_; refine Qk ilss rfl rfl rfl rfl ?_; refine QZ rfl rfl rfl rfl ?_; refine Qq rfl rfl rfl ?_)
        refine Q5 51 (p := i < ((ps.getD 0 []).length : Int)) rfl (fun h1 => ?_) (fun h1 => ?_)
        · (refine Qq rfl rfl rfl ?_)
          refine Xw goBool (BoolB_ok bs p10 3 (by decide) (by decide) hb) rfl rfl rfl rfl rfl (fun q _ => ?_)
          obtain ⟨b3, p11⟩ := q
          dsimp only
          (refine Qp rfl rfl rfl ?_; refine QZ rfl rfl rfl rfl ?_; refine Qj (hK _ _ (Qz ?_)); clear hK K)
          refine XX rfl (fun _ => ?_) (fun _ => ?_)
          · (refine Qx (fun K hK => ?_); refine QV rfl rfl rfl (by with_reducible first | exact fH0 | exact fH1 | exact fH2 | exact fS0 | exact fS1 | exact fS2 | exact fS3 | exact fS4 | exact fS5 | exact fS6 | exact fS7 | exact fS8 | exact fS9 | exact fS10 | exact fS11) rfl ?_; refine QJ rfl rfl rfl rfl rfl (by with_reducible first | exact lInt | exact Q9 | exact lAdrs | exact lPths | exact Q6) rfl ?_)
            refine Ops.linkX 57 3 rfl rfl ?_
            refine Ops.idxX ps.length rfl rfl rfl (pths_len ps) rfl (by with_reducible exact sPths) (by decide) (by omega) rfl ?_
            refine QJ rfl rfl rfl rfl (pths_get hp0) (by with_reducible exact lAdrs) rfl ?_
            (refine Qq rfl rfl rfl ?_; refine Qg rfl rfl rfl (by with_reducible exact sAdrs) (by omega) (adrs_at (by omega) (by omega)) rfl ?_; refine Xy rfl rfl rfl (by with_reducible first | exact Q9 | exact lAdrs) rfl ?_; refine Qv rfl rfl rfl ?_; refine Qj (hK _ _ (Qz ?_)); clear hK K; refine Qx (fun K hK => ?_); refine Qq rfl rfl rfl ?_; refine Qq rfl rfl rfl ?_)
            refine Xp rfl rfl (by with_reducible exact sAdrs) rfl rfl rfl ?_
            refine Qs pp.length (adrs (pp ++ [(ps.getD 0 []).getD i.toNat 0])) rfl rfl rfl rfl (by with_reducible exact sAdrs) (by simp [adrs]) rfl (by omega) (by omega) (by simp [adrs]) rfl ?_
            (refine Qv rfl rfl rfl ?_; refine Qj (hK _ _ (Qz ?_)); clear hK K; refine Qx (fun K hK => ?_); refine Qq rfl rfl rfl ?_; refine Qk (iadd (by omega) (by omega)) rfl rfl rfl rfl ?_; refine Qv rfl rfl rfl ?_; refine Qj (hK _ _ (Q3 ?_)); clear hK K)
            refine Q7 (i + 1, pp ++ [(ps.getD 0 []).getD i.toNat 0], p11) (by dsimp only; omega) ⟨by dsimp only; omega, by simp; omega, by dsimp only; omega⟩ (by exact Qu rfl ⟨rfl, rfl, rfl, rfl, rfl, rfl, rfl, trivial⟩)
          · skip
            (refine Q1 (Qz (Qx fun K hK => ?_)); refine Qq rfl rfl rfl ?_; refine Qq rfl rfl rfl ?_)
            refine Xp rfl rfl (by with_reducible exact sAdrs) rfl rfl rfl ?_
            refine Qs pp.length (adrs (pp ++ [a])) rfl rfl rfl rfl (by with_reducible exact sAdrs) (by simp [adrs]) rfl (by omega) (by omega) (by simp [adrs]) rfl ?_
            (refine Qv rfl rfl rfl ?_; refine Qj (hK _ _ (Qz ?_)); clear hK K; refine Qx (fun K hK => ?_); refine Qq rfl rfl rfl ?_; refine Qk (iadd (by omega) (by omega)) rfl rfl rfl rfl ?_; refine Qv rfl rfl rfl ?_; refine Qj (hK _ _ (Q3 ?_)); clear hK K)
            refine Q7 (i + 1, pp ++ [a], p11) (by dsimp only; omega) ⟨by dsimp only; omega, by simp; omega, by dsimp only; omega⟩ (by exact Qu rfl ⟨rfl, rfl, rfl, rfl, rfl, rfl, rfl, trivial⟩)
        · skip
          (refine Qy rfl rfl rfl ?_; refine Qy rfl rfl rfl ?_; refine Qy rfl rfl rfl ?_; refine QK rfl rfl rfl rfl ?_; refine Qj (hK _ _ (Qz (Xx rfl (Q1 (Qz ?_))))); clear hK K; refine Qx (fun K hK => ?_); refine Qq rfl rfl rfl ?_; refine Qq rfl rfl rfl ?_)
          refine Xp rfl rfl (by with_reducible exact sAdrs) rfl rfl rfl ?_
          refine Qs pp.length (adrs (pp ++ [a])) rfl rfl rfl rfl (by with_reducible exact sAdrs) (by simp [adrs]) rfl (by omega) (by omega) (by simp [adrs]) rfl ?_
          (refine Qv rfl rfl rfl ?_; refine Qj (hK _ _ (Qz ?_)); clear hK K; refine Qx (fun K hK => ?_); refine Qq rfl rfl rfl ?_; refine Qk (iadd (by omega) (by omega)) rfl rfl rfl rfl ?_; refine Qv rfl rfl rfl ?_; refine Qj (hK _ _ (Q3 ?_)); clear hK K)
          refine Q7 (i + 1, pp ++ [a], p10) (by dsimp only; omega) ⟨by dsimp only; omega, by simp; omega, by dsimp only; omega⟩ (by exact Qu rfl ⟨rfl, rfl, rfl, rfl, rfl, rfl, rfl, trivial⟩)
      · skip
        (refine Qy rfl rfl rfl ?_; refine Qy rfl rfl rfl ?_; refine Qy rfl rfl rfl ?_; refine Qy rfl rfl rfl ?_; refine Qy rfl rfl rfl ?_; refine Qy rfl rfl rfl ?_; refine Qy rfl rfl rfl ?_; refine QK rfl rfl rfl rfl ?_; refine Qq rfl rfl rfl ?_; refine Qy rfl rfl rfl ?_; refine Qy rfl rfl rfl ?_; refine Qy rfl rfl rfl ?_; refine QK rfl rfl rfl rfl ?_; refine Qj (hK _ _ (Qz (Xx rfl (Q1 (Qz ?_))))); clear hK K; refine Qx (fun K hK => ?_); refine Qq rfl rfl rfl ?_; refine Qq rfl rfl rfl ?_)
        refine Xp rfl rfl (by with_reducible exact sAdrs) rfl rfl rfl ?_
        refine Qs pp.length (adrs (pp ++ [a])) rfl rfl rfl rfl (by with_reducible exact sAdrs) (by simp [adrs]) rfl (by omega) (by omega) (by simp [adrs]) rfl ?_
        (refine Qv rfl rfl rfl ?_; refine Qj (hK _ _ (Qz ?_)); clear hK K; refine Qx (fun K hK => ?_); refine Qq rfl rfl rfl ?_; refine Qk (iadd (by omega) (by omega)) rfl rfl rfl rfl ?_; refine Qv rfl rfl rfl ?_; refine Qj (hK _ _ (Q3 ?_)); clear hK K)
        refine Q7 (i + 1, pp ++ [a], p10) (by dsimp only; omega) ⟨by dsimp only; omega, by simp; omega, by dsimp only; omega⟩ (by exact Qu rfl ⟨rfl, rfl, rfl, rfl, rfl, rfl, rfl, trivial⟩)
    · refine St.frz 4 _ rfl (adrs_frozen _ _) (Ze rfl) ?_
      (refine Qn (Qz (Qx fun K hK => ?_)); refine QV rfl rfl rfl (by with_reducible first | exact fH0 | exact fH1 | exact fH2 | exact fS0 | exact fS1 | exact fS2 | exact fS3 | exact fS4 | exact fS5 | exact fS6 | exact fS7 | exact fS8 | exact fS9 | exact fS10 | exact fS11) rfl ?_; refine QJ rfl rfl rfl rfl rfl (by with_reducible first | exact lInt | exact Q9 | exact lAdrs | exact lPths | exact Q6) rfl ?_; refine Qq rfl rfl rfl ?_)
      refine Xp rfl rfl (by with_reducible exact sPths) rfl rfl rfl ?_
      refine Ops.link 68 3 rfl rfl ?_
      refine Qs ps.length (pths (ps ++ [pp])) rfl rfl rfl rfl (by with_reducible exact sPths) (pths_len ps) rfl (by omega) (by omega) (by simp [pths]) rfl ?_
      (refine QV rfl rfl rfl (by with_reducible first | exact fH0 | exact fH1 | exact fH2 | exact fS0 | exact fS1 | exact fS2 | exact fS3 | exact fS4 | exact fS5 | exact fS6 | exact fS7 | exact fS8 | exact fS9 | exact fS10 | exact fS11) rfl ?_)
      refine Ops.name 71 3 rfl rfl (fun v' hv' => ?_)
      refine Xh (c := .ex v') rfl rfl rfl rfl hv' (by with_reducible exact zPths) (Nat.le_of_ble_eq_true rfl) ?_
      (refine Qj (hK _ _ (Qz ?_)); clear hK K; refine Qx (fun K hK => ?_); refine Qq rfl rfl rfl ?_; refine Qk (iadd (by omega) (by omega)) rfl rfl rfl rfl ?_; refine Qv rfl rfl rfl ?_; refine Qj (hK _ _ (Q3 ?_)); clear hK K)
      refine Q7 (f + 1, ps ++ [pp], v', p8) (by simp; omega) ⟨by simp; omega, by simp; omega, mem_snocG hps (by omega), hv'⟩ (by exact Qu rfl ⟨rfl, rfl, rfl, rfl, rfl, trivial⟩)
  · refine St.frzX 3 2 3 _ rfl rfl rfl (pths_frozen _ _) (Ze rfl) ?_
    (refine Qn (Qz (Qw (Qx fun K hK => ?_))); refine Qa (n := 5) rfl rfl rfl rfl rfl (by with_reducible exact lNet) rfl ?_; refine Qe 5 rfl rfl rfl rfl rfl (by with_reducible exact szNet) rfl rfl ?_; refine Qj (hK _ _ (Qz (Q0 ?_))); clear hK K)
    refine Fin.endB (⟨va, ds, pr, ps, la⟩, p7) [_] rfl (Qi (n := 5) rfl rfl (by with_reducible exact lNet) rfl QX) rfl rfl ⟨hq.1, hq.2, by dsimp only; omega, hfl, hps⟩
end Go.Proofs.YtlkdkbdgnjcopaaGreat
namespace Go.Own
open Go.RowKit
variable {X : Ctx} {L : AL} {B : BL}
theorem Ops.nilRow {ops : Array Oper} {K : Act → World → Prop} {l : Pl} (dd i : Nat) (e n : Nat) (hd : look L dd = some (.ct (.ex (.slice none 0 0)))) (hN : noN i L = true) (hB : bget B i = none) (h : Ops X ops l ((dd, .own i) :: L) ((i, .row e n []) :: B) K) : Ops X ops l L B K := Fin.nilRow dd i e n hd hN hB h
theorem addW (x y : Int) : IBin .add .i64 x .i64 y (.int .i64 (IntKind.i64.wrap (x + y))) := .of fun _ _ _ => rfl
end Go.Own
namespace Go.Proofs.YtlkdkbdgnjcopaaGreat
open Go.Own
attribute [local irreducible] St Ops Go.Own.Fin Ok OkB OkN OkT OkL OkF wpR
instance : Inhabited Nt := ⟨⟨0, 0, 0, [], 0⟩⟩
abbrev nt0 : Nt := ⟨0, 0, 0, [], 0⟩
theorem nt_len (q : Nt) : (ntCs q).length = 5 := rfl
abbrev zNums : Value := .agg #[.int .i64 0, .int .i64 0, .int .i64 0, .int .i64 0, .int .i64 0, .int .i64 0, .int .i64 0, .int .i64 0, .int .i64 0, .int .i64 0, .int .i64 0, .int .i64 0, .int .i64 0, .int .i64 0, .int .i64 0, .int .i64 0]
theorem aNums : ArrT Tryz.prog 117 3 16 1 zNums := ⟨Tryz.underlying117, by kernel_rfl, by kernel_rfl⟩
theorem zvNums : (Tryz.prog.info? 117).map (·.zero) = some (some zNums) := by kernel_rfl
theorem rss_snocD (l : List Rs) (r : Rs) : rss (l ++ [r]) = rss l ++ rsCs r := by rw [rss_app]; simp [rss]
theorem nets_get {l : List Nt} (h : ∀ q ∈ l, NtIn q) {i : Nat} (hi : i < l.length) : NtIn (l.getD i nt0) := by
  rw [List.getD_eq_getElem?_getD, List.getElem?_eq_getElem hi]
  exact h _ (List.getElem_mem hi)
theorem mem_getG {α : Type} {P : α → Prop} {xs : List α} {z : α} (h : ∀ y ∈ xs, P y) {i : Nat} (hi : i < xs.length) : P (xs.getD i z) := by
  rw [List.getD_eq_getElem?_getD, List.getElem?_eq_getElem hi]
  exact h _ (List.getElem_mem hi)
theorem mem_setG {α : Type} {P : α → Prop} {xs : List α} {x : α} (h : ∀ y ∈ xs, P y) (hx : P x) (i : Nat) : ∀ y ∈ xs.set i x, P y := fun y hy => by
  rcases List.mem_or_eq_of_mem_set hy with h1 | h1
  · exact h y h1
  · rw [h1]; exact hx
structure RSt where
  k : Int
  ns : List Nt
  tm : Int
  id : Int
  nu : List Int
  out : List Rs
  p : Nat
structure ROk (most : Int) (s : RSt) : Prop where
  k0 : 0 ≤ s.k
  kl : s.out.length + s.k ≤ most
  n1 : 1 ≤ s.ns.length
  n2 : s.ns.length ≤ 2
  nt : ∀ q ∈ s.ns, NtIn q
  t0 : 0 ≤ s.tm
  t1 : s.tm + 100 * s.k ≤ 20000
  i0 : 0 ≤ s.id
  i1 : s.id + 10 * s.k ≤ 80000
  nl : s.nu.length = 16
end Go.Proofs.YtlkdkbdgnjcopaaGreat
namespace Go.Proofs.YtlkdkbdgnjcopaaGreat
open Go.Own
attribute [local irreducible] St Ops Go.Own.Fin Ok OkB OkN OkT OkL OkF wpR
theorem goResults : InGo Tryz.prog 22 := InGo.of Tryz.func22 rfl (by decide)
set_option maxHeartbeats 16000000 in
theorem Results_ok (bs : List Int) (p : Nat) (most : Int) (st : Bool) (h0 : 0 ≤ most) (h1 : most ≤ 100) (hb : Bytes bs) : OkB Tryz.prog 22 78 (codes bs p) [intC most, boolC st] (fun q : List Rs × Nat => (q.1.length : Int) ≤ most) (fun q => rssC q.1) (fun q => codes bs q.2) := by
  refine OkB.enter Tryz.func22 rfl _ Tryz.ntmps22 rfl ?_
  intro S w g
  (refine Qw (Qx fun K hK => ?_); refine Qv rfl rfl rfl ?_; refine Qj (hK _ _ (Qz (Qw ?_))); clear hK K; refine Qx (fun K hK => ?_); refine Qq rfl rfl rfl ?_)
  refine Xw goScene (scene_ok bs p hb) rfl rfl rfl rfl rfl (fun q hq => ?_)
  obtain ⟨n1, p1⟩ := q
  dsimp only at hq ⊢
  skip
  refine Ops.litE 1 (m := 1) (n := 5) (zv := zNet) (cs := nts [n1]) rfl rfl (by with_reducible exact sNets) (.agg (n := 5) rfl rfl rfl rfl .nil) (by decide) rfl rfl rfl ?_
  (refine Qv rfl rfl rfl ?_; refine Qj (hK _ _ (Qz (Qw (Qw ?_)))); clear hK K; refine Qx (fun K hK => ?_); refine Qq rfl rfl rfl ?_)
  refine Xw goBool (BoolB_ok bs p1 3 (by decide) (by decide) hb) rfl rfl rfl rfl rfl (fun q _ => ?_)
  obtain ⟨b1, p2⟩ := q
  dsimp only
  (refine Qj (hK _ _ (Qz ?_)); clear hK K)
  refine ZV (α := List Nt × Nat) (fun x => 1 ≤ x.1.length ∧ x.1.length ≤ 2 ∧ ∀ q ∈ x.1, NtIn q) (fun _ => [(0, .own 0), (1, .ct (intC most)), (2, .ct (boolC st)), (7, .own 1)]) (fun x => [(1, .row 113 5 (nts x.1)), (0, .box 78 (codes bs x.2))]) (fun x hx => ?_) (fun KK hN => ?_)
  rotate_left
  · refine XX rfl (fun _ => ?_) (fun _ => ?_)
    · (refine Qx (fun K hK => ?_); refine Qq rfl rfl rfl ?_; refine Qq rfl rfl rfl ?_)
      refine Xw goScene (scene_ok bs p2 hb) rfl rfl rfl rfl rfl (fun q hq2 => ?_)
      obtain ⟨n2, p3⟩ := q
      dsimp only at hq2 ⊢
      refine X6 (n := 5) rfl rfl (by with_reducible exact sNets) rfl rfl (by decide) rfl ?_
      refine Qs 1 (nts [n1, n2]) rfl rfl rfl rfl (by with_reducible exact sNets) rfl rfl (by decide) (by decide) rfl rfl ?_
      (refine Qv rfl rfl rfl ?_; refine Qj (hK _ _ ?_); clear hK K)
      exact Qt hN ([n1, n2], p3) ⟨by simp, by simp, by simp [hq, hq2]⟩ (by exact Qu rfl ⟨rfl, rfl, rfl, rfl, trivial⟩)
    · (refine Q1 ?_)
      exact Qt hN ([n1], p2) ⟨by simp, by simp, by simp [hq]⟩ (by exact Qu rfl ⟨rfl, rfl, rfl, rfl, trivial⟩)
  clear hq
  obtain ⟨ns0, p3⟩ := x
  obtain ⟨hn1, hn2, hnt⟩ := hx
  dsimp only at hn1 hn2 hnt ⊢
  (refine Qw (Qx fun K hK => ?_); refine Qv rfl rfl rfl ?_; refine Qj (hK _ _ (Qz (Qw ?_))); clear hK K; refine Qx (fun K hK => ?_); refine Qq rfl rfl rfl ?_)
  refine Ops.nilRow 8 2 35 17 rfl rfl rfl ?_
  skip
  refine Xw goNext (Zi bs p3 50 (by decide) (by decide) hb) rfl rfl rfl rfl rfl (fun q hq => ?_)
  obtain ⟨at0, p4⟩ := q
  dsimp only at hq ⊢
  (refine Qq rfl rfl rfl ?_)
  refine Xw goNext (Zi bs p4 700 (by decide) (by decide) hb) rfl rfl rfl rfl rfl (fun q hq2 => ?_)
  obtain ⟨id0, p5⟩ := q
  dsimp only at hq2 ⊢
  (refine Qk (imul (by omega) (by omega)) rfl rfl rfl rfl ?_; refine Qv rfl rfl rfl ?_; refine Qv rfl rfl rfl ?_; refine Qj (hK _ _ (Qz (Qw ?_))); clear hK K; refine Qx (fun K hK => ?_))
  refine Qh 3 rfl rfl (by with_reducible exact zvNums) rfl rfl rfl ?_
  (refine Qj (hK _ _ (Qz (Qw (Qw ?_)))); clear hK K; refine Qx (fun K hK => ?_); refine Qq rfl rfl rfl ?_; refine Qq rfl rfl rfl ?_; refine Qk (iadd (by omega) (by omega)) rfl rfl rfl rfl ?_)
  refine Xw goNext (Zi bs p5 (most + 1) (by omega) (by omega) hb) rfl rfl rfl rfl rfl (fun q hq3 => ?_)
  obtain ⟨k0, p6⟩ := q
  dsimp only at hq3 ⊢
  (refine Qv rfl rfl rfl ?_; refine Qj (hK _ _ (Qz (Q4 ?_))); clear hK K)
  refine Xz (α := RSt) (ROk most)
    (fun x => [(0, .own 0), (1, .ct (intC most)), (2, .ct (boolC st)), (7, .own 1), (8, .own 2), (9, .ct (intC x.tm)), (10, .ct (intC x.id)), (11, .own 3), (12, .ct (intC x.k))])
    (fun x => [(3, .box 117 (ints x.nu)), (2, .row 35 17 (rss x.out)), (1, .row 113 5 (nts x.ns)), (0, .box 78 (codes bs x.p))])
    (fun x => x.k.toNat) ⟨k0, ns0, at0, 100 * id0, List.replicate 16 0, [], p6⟩ ⟨hq3.1, by simp; omega, hn1, hn2, hnt, hq.1, by dsimp only; omega, by dsimp only; omega, by dsimp only; omega, rfl⟩ (by exact Qu rfl ⟨rfl, rfl, rfl, rfl, rfl, rfl, rfl, rfl, rfl, trivial⟩) ?_
  rintro ⟨k, ns, tm, id, nu, out, q0⟩ ⟨hk0, hkl, hn1, hn2, hnt, ht0, ht1, hi0, hi1, hnl⟩
  dsimp only at hk0 hkl hn1 hn2 hnt ht0 ht1 hi0 hi1 hnl ⊢
  (refine Qw (Qw (Qx fun K hK => ?_)); refine Qq rfl rfl rfl ?_; refine Qk igtr rfl rfl rfl rfl ?_; refine Qj (hK _ _ (Qz ?_)); clear hK K)
  refine Q2 rfl (fun hk => ?_) (fun hk => ?_)
  · (refine Q1 (Qz (Qw (Q4 (Qw (Qx fun K hK => ?_))))); refine Qq rfl rfl rfl ?_; refine Qq rfl rfl rfl ?_; refine Yv _ rfl rfl rfl (by decide) (nts_len _) (by with_reducible exact sNets.und) rfl ?_)
    refine Xw goNext (Zi bs q0 ns.length (by omega) (by omega) hb) rfl rfl rfl rfl rfl (fun q hq4 => ?_)
    obtain ⟨i, q1⟩ := q
    dsimp only at hq4 ⊢
    refine Qv rfl rfl rfl ?_
    refine Qj (hK _ _ ?_)
    clear hK K
    refine Qz ?_
    refine Qw ?_
    refine ZV (α := List Nt × Nat) (fun x => x.1.length = ns.length ∧ ∀ q ∈ x.1, NtIn q)
      (fun x => [(0, .own 0), (1, .ct (intC most)), (2, .ct (boolC st)), (7, .own 1), (8, .own 2), (9, .ct (intC tm)), (10, .ct (intC id)), (11, .own 3), (12, .ct (intC k)), (13, .ct (intC i))])
      (fun x => [(3, .box 117 (ints nu)), (2, .row 35 17 (rss out)), (1, .row 113 5 (nts x.1)), (0, .box 78 (codes bs x.2))]) (fun x hx => ?_) (fun KK hN => ?_)
    rotate_left
    · have hu : Tryz.prog.underlying 113 = _ := Tryz.underlying113
      (refine Qw (Qx fun K hK => ?_); refine Qq rfl rfl rfl ?_; refine Qp rfl rfl rfl ?_; refine Qq rfl rfl rfl ?_)
      refine X3 48 (b := !st) rfl (fun hs => ?_) (fun hs => ?_)
      · (refine Qq rfl rfl rfl ?_)
        refine Xw goBool (BoolB_ok bs q1 12 (by decide) (by decide) hb) rfl rfl rfl rfl rfl (fun q _ => ?_)
        obtain ⟨b2, q2⟩ := q
        dsimp only
        (refine QZ rfl rfl rfl rfl ?_; refine Qj (hK _ _ (Qz ?_)); clear hK K)
        refine XX rfl (fun _ => ?_) (fun _ => ?_)
        · (refine Qx (fun K hK => ?_); refine Qq rfl rfl rfl ?_; refine Qq rfl rfl rfl ?_; refine Qq rfl rfl rfl ?_)
          refine Xw goScene (scene_ok bs q2 hb) rfl rfl rfl rfl rfl (fun q hq5 => ?_)
          obtain ⟨n2, q3⟩ := q
          dsimp only at hq5 ⊢
          refine Ops.fldV (off := 3) (cs := ntCs n2) (c := pthsC n2.ps) rfl rfl hu rfl rfl Tryz.underlying111 rfl rfl rfl ?_
          refine Xi ns.length rfl rfl rfl (nts_len ns) rfl (by with_reducible exact sNets) (by omega) (by omega) rfl ?_
          refine X2 rfl rfl (by with_reducible exact fH1) rfl ?_
          refine stE1 (j := i.toNat) (o := 3) (n := 5) ntCs nt0 ⟨(ns.getD i.toNat nt0).va, (ns.getD i.toNat nt0).ds, (ns.getD i.toNat nt0).pr, n2.ps, (ns.getD i.toNat nt0).la⟩ nt_len rfl rfl rfl rfl rfl (by omega) (by decide) rfl (by with_reducible exact zPths) ?_
          (refine Qj (hK _ _ ?_); clear hK K)
          have hi9 : NtIn (ns.getD i.toNat nt0) := nets_get hnt (by omega)
          exact Qt hN (ns.set i.toNat ⟨(ns.getD i.toNat nt0).va, (ns.getD i.toNat nt0).ds, (ns.getD i.toNat nt0).pr, n2.ps, (ns.getD i.toNat nt0).la⟩, q3) ⟨by simp, by refine mem_setG hnt ?_ _; exact ⟨hi9.v0, hi9.v1, hq5.l0, hq5.l1, hq5.pl⟩⟩ (by exact Qu rfl ⟨rfl, rfl, rfl, rfl, rfl, rfl, rfl, rfl, rfl, rfl, trivial⟩)
        · (refine Q1 ?_)
          exact Qt hN (ns, q2) ⟨rfl, hnt⟩ (by exact Qu rfl ⟨rfl, rfl, rfl, rfl, rfl, rfl, rfl, rfl, rfl, rfl, trivial⟩)
      · (refine Qy rfl rfl rfl ?_; refine Qy rfl rfl rfl ?_; refine QK rfl rfl rfl rfl ?_; refine Qj (hK _ _ (Qz (Xx rfl (Q1 ?_)))); clear hK K)
        exact Qt hN (ns, q1) ⟨rfl, hnt⟩ (by exact Qu rfl ⟨rfl, rfl, rfl, rfl, rfl, rfl, rfl, rfl, rfl, rfl, trivial⟩)
    obtain ⟨ns', q2⟩ := x
    obtain ⟨hnl', hnt'⟩ := hx
    dsimp only at hnl' hnt' ⊢
    (refine Qw (Qx fun K hK => ?_); refine Qq rfl rfl rfl ?_; refine Qq rfl rfl rfl ?_)
    refine Xi ns'.length rfl rfl rfl (nts_len ns') rfl (by with_reducible exact sNets) (by omega) (by omega) rfl ?_
    refine ldE ntCs nt0 nt_len rfl rfl rfl rfl rfl (by omega) (by with_reducible exact lNet) rfl ?_
    have hn9 : NtIn (ns'.getD i.toNat nt0) := nets_get hnt' (by omega)
    generalize ns'.getD i.toNat nt0 = n9 at hn9
    obtain ⟨va, ds, pr, ps, la⟩ := n9
    obtain ⟨v0, v1, l0, l1, pl⟩ := hn9
    dsimp only at v0 v1 l0 l1 pl ⊢
    (refine Qh 4 rfl rfl (by with_reducible exact zvNet) rfl rfl rfl ?_; refine Qe 5 rfl rfl rfl rfl rfl (by with_reducible exact szNet) rfl rfl ?_; refine Qj (hK _ _ (Qz (Qw ?_))); clear hK K; refine Qx (fun K hK => ?_); refine Qq rfl rfl rfl ?_; refine QV rfl rfl rfl (by with_reducible first | exact fH0 | exact fH1 | exact fH2 | exact fS0 | exact fS1 | exact fS2 | exact fS3 | exact fS4 | exact fS5 | exact fS6 | exact fS7 | exact fS8 | exact fS9 | exact fS10 | exact fS11) rfl ?_; refine QJ rfl rfl rfl rfl rfl (by with_reducible first | exact lInt | exact Q9 | exact lAdrs | exact lPths | exact Q6) rfl ?_; refine Qd rfl rfl (by with_reducible first | exact sAdrs.und | exact sPths.und | exact sRes.und) (List.length_map ..) rfl ?_)
    refine Xw goNext (Zi bs q2 ps.length (by omega) (by omega) hb) rfl rfl rfl rfl rfl (fun q hq5 => ?_)
    obtain ⟨f, q3⟩ := q
    dsimp only at hq5 ⊢
    (refine Qv rfl rfl rfl ?_; refine Qj (hK _ _ (Qz (Qw ?_))); clear hK K; refine Qx (fun K hK => ?_); refine QV rfl rfl rfl (by with_reducible first | exact fH0 | exact fH1 | exact fH2 | exact fS0 | exact fS1 | exact fS2 | exact fS3 | exact fS4 | exact fS5 | exact fS6 | exact fS7 | exact fS8 | exact fS9 | exact fS10 | exact fS11) rfl ?_; refine QJ rfl rfl rfl rfl rfl (by with_reducible first | exact lInt | exact Q9 | exact lAdrs | exact lPths | exact Q6) rfl ?_; refine Qq rfl rfl rfl ?_)
    refine Qg rfl rfl rfl (by with_reducible exact sPths) (by omega) (pths_at (ps := ps) (j := f) (by omega) (by omega)) rfl ?_
    refine Xy rfl rfl rfl (by with_reducible exact lAdrs) rfl ?_
    have hp9 : 1 ≤ (ps.getD f.toNat []).length ∧ (ps.getD f.toNat []).length ≤ 3 := mem_getG pl (by omega)
    generalize ps.getD f.toNat [] = pp at hp9
    (refine Qv rfl rfl rfl ?_; refine Qj (hK _ _ (Qz (Qw ?_))); clear hK K; refine Qx (fun K hK => ?_); refine Qq rfl rfl rfl ?_; refine Qq rfl rfl rfl ?_)
    refine Xw goNext (Zi bs q3 40 (by decide) (by decide) hb) rfl rfl rfl rfl rfl (fun q hq6 => ?_)
    obtain ⟨dt, q4⟩ := q
    dsimp only at hq6 ⊢
    (refine Qk (iadd (by omega) (by omega)) rfl rfl rfl rfl ?_; refine Qk (iadd (by omega) (by omega)) rfl rfl rfl rfl ?_; refine Qv rfl rfl rfl ?_; refine Qj (hK _ _ (Qz (Qw ?_))); clear hK K)
    refine ZV (α := Int × Nat) (fun x => 0 ≤ x.1 ∧ x.1 ≤ pp.length) (fun _ => [(0, .own 0), (1, .ct (intC most)), (2, .ct (boolC st)), (7, .own 1), (8, .own 2), (9, .ct (intC (tm + (1 + dt)))), (10, .ct (intC id)), (11, .own 3), (12, .ct (intC k)), (14, .own 4), (16, .ct (adrsC pp)), (17, .own 5)])
      (fun x => [(5, .box 35 [intC va, intC 0, intC (nu.getD va.toNat 0), intC (tm + (1 + dt)), adrF ds, intC pr, intC f, intC (1 + x.1), boolC false, boolC false, intC 0, adrF 0, intC 0, intC 0, intC 0, intC 0, intC 0]), (4, .box 113 [intC va, adrF ds, intC pr, pthsC ps, adrF la]), (3, .box 117 (ints nu)), (2, .row 35 17 (rss out)), (1, .row 113 5 (nts ns')), (0, .box 78 (codes bs x.2))]) (fun x hx => ?_) (fun KK hN => ?_)
    rotate_left
    · refine St.drawR (by with_reducible exact mixed) 24 (.p 0 (.p 1 (.p 3 (.p 4 (.p 8 (.p 9 (.p 10 (.p 12 (.p 13 (.p 15 (.p 16 (.p 17 (.p 18 (.p 19 (.f 2 (.f 5 (.p 6 (.f 7 (.f 11 (.f 14 (.fork 20 (.p 21 (.p 22 (.m 23 (.a 24 .done)))) 23 (.m 20 (.p 21 (.p 22 (.a 24 .done))))))))))))))))))))))))) (by kernel_rfl) (fun K hK => ?_)
      refine Zw ?_
      (refine QV rfl rfl rfl (by with_reducible first | exact fH0 | exact fH1 | exact fH2 | exact fS0 | exact fS1 | exact fS2 | exact fS3 | exact fS4 | exact fS5 | exact fS6 | exact fS7 | exact fS8 | exact fS9 | exact fS10 | exact fS11) rfl ?_)
      refine Qj ?_
      refine Zw ?_
      (refine X2 rfl rfl (by with_reducible first | exact fR0t | exact fR1t | exact fR2t | exact fN0 | exact fN1 | exact fN4) rfl ?_)
      refine Qj ?_
      refine Zw ?_
      (refine QV rfl rfl rfl (by with_reducible first | exact fH0 | exact fH1 | exact fH2 | exact fS0 | exact fS1 | exact fS2 | exact fS3 | exact fS4 | exact fS5 | exact fS6 | exact fS7 | exact fS8 | exact fS9 | exact fS10 | exact fS11) rfl ?_)
      refine Qj ?_
      refine Zw ?_
      (refine X2 rfl rfl (by with_reducible first | exact fR0t | exact fR1t | exact fR2t | exact fN0 | exact fN1 | exact fN4) rfl ?_)
      refine Qj ?_
      refine Zw ?_
      (refine Qq rfl rfl rfl ?_)
      refine Qj ?_
      refine Zw ?_
      (refine QV rfl rfl rfl (by with_reducible first | exact fH0 | exact fH1 | exact fH2 | exact fS0 | exact fS1 | exact fS2 | exact fS3 | exact fS4 | exact fS5 | exact fS6 | exact fS7 | exact fS8 | exact fS9 | exact fS10 | exact fS11) rfl ?_)
      refine Qj ?_
      refine Zw ?_
      (refine X2 rfl rfl (by with_reducible first | exact fR0t | exact fR1t | exact fR2t | exact fN0 | exact fN1 | exact fN4) rfl ?_)
      refine Qj ?_
      refine Zw ?_
      (refine QV rfl rfl rfl (by with_reducible first | exact fH0 | exact fH1 | exact fH2 | exact fS0 | exact fS1 | exact fS2 | exact fS3 | exact fS4 | exact fS5 | exact fS6 | exact fS7 | exact fS8 | exact fS9 | exact fS10 | exact fS11) rfl ?_)
      refine Qj ?_
      refine Zw ?_
      (refine X2 rfl rfl (by with_reducible first | exact fR0t | exact fR1t | exact fR2t | exact fN0 | exact fN1 | exact fN4) rfl ?_)
      refine Qj ?_
      refine Zw ?_
      (refine Qq rfl rfl rfl ?_)
      refine Qj ?_
      refine Zw ?_
      (refine Qq rfl rfl rfl ?_)
      refine Qj ?_
      refine Zw ?_
      (refine Qq rfl rfl rfl ?_)
      refine Qj ?_
      refine Zw ?_
      (refine Qd rfl rfl (by with_reducible first | exact sAdrs.und | exact sPths.und | exact sRes.und) (List.length_map ..) rfl ?_)
      refine Qj ?_
      refine Zw ?_
      (refine Qk (iadd (by omega) (by omega)) rfl rfl rfl rfl ?_)
      refine Qj ?_
      refine Fin.rfA rfl rfl rfl rfl rfl (by with_reducible exact lInt) (Zt rfl) rfl ?_
      refine Fin.rfA rfl rfl rfl rfl rfl (by with_reducible exact lInt) (Zt rfl) rfl ?_
      refine Zw ?_
      refine Z7 (j := va) rfl rfl rfl rfl (by with_reducible exact aNums) (by omega) (by omega) rfl ?_
      refine Qj ?_
      refine Fin.rfA (c := intC (nu.getD va.toNat 0)) rfl rfl rfl rfl (by rw [Nat.mul_one]; exact ints_get (by omega)) (by with_reducible exact lInt) (Zt rfl) rfl ?_
      refine Fin.rfA rfl rfl rfl rfl rfl (by with_reducible exact Q9) (Zt rfl) rfl ?_
      refine Fin.rfA rfl rfl rfl rfl rfl (by with_reducible exact lInt) (Zt rfl) rfl ?_
      refine Fin.rfork ?_ ?_
      · refine Fin.rmB rfl goNext (Zi bs q4 (pp.length + 1) (by omega) (by omega) hb) rfl rfl rfl rfl rfl (fun y hy0 => ?_)
        obtain ⟨t, q5⟩ := y
        dsimp only at hy0 ⊢
        refine Zw ?_
        (refine Qk (iadd (by omega) (by omega)) rfl rfl rfl rfl ?_)
        refine Qj ?_
        refine Zw ?_
        refine Xq rfl (by with_reducible exact bRes) rfl (.one rfl rfl rfl rfl (.one rfl rfl rfl rfl (.one rfl rfl rfl rfl (.one rfl rfl rfl rfl (.one rfl rfl rfl rfl (.one rfl rfl rfl rfl (.one rfl rfl rfl rfl (.one rfl rfl rfl rfl .nil)))))))) rfl ?_
        refine Qj ?_
        refine Fin.rm ?_
        refine Qh 5 rfl rfl (by with_reducible exact zvRes) rfl rfl rfl ?_
        refine Qj ?_
        refine Fin.ra ?_
        refine Qe 17 rfl rfl rfl rfl rfl (by with_reducible exact szRes) rfl rfl ?_
        refine Qj ?_
        refine Fin.rdone ?_
        exact hK _ _ (Qt hN (t, q5) ⟨hy0.1, by dsimp only; omega⟩ (by exact Qu rfl ⟨rfl, rfl, rfl, rfl, rfl, rfl, rfl, rfl, rfl, rfl, rfl, rfl, trivial⟩))
      · refine Fin.rm ?_
        refine Qh 5 rfl rfl (by with_reducible exact zvRes) rfl rfl rfl ?_
        refine Qj ?_
        refine Fin.rmB rfl goNext (Zi bs q4 (pp.length + 1) (by omega) (by omega) hb) rfl rfl rfl rfl rfl (fun y hy0 => ?_)
        obtain ⟨t, q5⟩ := y
        dsimp only at hy0 ⊢
        refine Zw ?_
        (refine Qk (iadd (by omega) (by omega)) rfl rfl rfl rfl ?_)
        refine Qj ?_
        refine Zw ?_
        refine Xq rfl (by with_reducible exact bRes) rfl (.one rfl rfl rfl rfl (.one rfl rfl rfl rfl (.one rfl rfl rfl rfl (.one rfl rfl rfl rfl (.one rfl rfl rfl rfl (.one rfl rfl rfl rfl (.one rfl rfl rfl rfl (.one rfl rfl rfl rfl .nil)))))))) rfl ?_
        refine Qj ?_
        refine Fin.ra ?_
        refine Qe 17 rfl rfl rfl rfl rfl (by with_reducible exact szRes) rfl rfl ?_
        refine Qj ?_
        refine Fin.rdone ?_
        exact hK _ _ (Qt hN (t, q5) ⟨hy0.1, by dsimp only; omega⟩ (by exact Qu rfl ⟨rfl, rfl, rfl, rfl, rfl, rfl, rfl, rfl, rfl, rfl, rfl, rfl, trivial⟩))
    obtain ⟨t, q5⟩ := x
    obtain ⟨ht0, ht1⟩ := hx
    dsimp only at ht0 ht1 ⊢
    (refine Qw (Qx fun K hK => ?_); refine QV rfl rfl rfl (by with_reducible first | exact fH0 | exact fH1 | exact fH2 | exact fS0 | exact fS1 | exact fS2 | exact fS3 | exact fS4 | exact fS5 | exact fS6 | exact fS7 | exact fS8 | exact fS9 | exact fS10 | exact fS11) rfl ?_; refine X2 rfl rfl (by with_reducible first | exact fR0t | exact fR1t | exact fR2t | exact fN0 | exact fN1 | exact fN4) rfl ?_; refine QJ rfl rfl rfl rfl rfl (by with_reducible first | exact lInt | exact Q9 | exact lAdrs | exact lPths | exact Q6) rfl ?_)
    refine Z7 (j := va) rfl rfl rfl rfl (by with_reducible exact aNums) (by omega) (by omega) rfl ?_
    refine QJ rfl rfl rfl rfl (by rw [Nat.mul_one]; exact ints_get (by omega)) (by with_reducible exact lInt) rfl ?_
    refine Qk (addW _ _) rfl rfl rfl rfl ?_
    refine Z7 (j := va) rfl rfl rfl rfl (by with_reducible exact aNums) (by omega) (by omega) rfl ?_
    refine Xh rfl rfl rfl rfl rfl (by with_reducible exact zInt) (by show va.toNat * 1 < (ints nu).length; rw [ints_length]; omega) ?_
    simp only [Ent.setc, ints_set, Nat.mul_one]
    (refine Qj (hK _ _ (Qz (Qw ?_))); clear hK K)
    refine St.drawR (by with_reducible exact mixed) 10 (.p 0 (.p 2 (.p 6 (.f 1 (.f 3 (.p 4 (.p 5 (.m 7 (.p 8 (.p 9 (.a 10 .done))))))))))) (by kernel_rfl) (fun K hK => ?_)
    refine Zw ?_
    (refine QV rfl rfl rfl (by with_reducible first | exact fH0 | exact fH1 | exact fH2 | exact fS0 | exact fS1 | exact fS2 | exact fS3 | exact fS4 | exact fS5 | exact fS6 | exact fS7 | exact fS8 | exact fS9 | exact fS10 | exact fS11) rfl ?_)
    refine Qj ?_
    refine Zw ?_
    (refine QV rfl rfl rfl (by with_reducible first | exact fH0 | exact fH1 | exact fH2 | exact fS0 | exact fS1 | exact fS2 | exact fS3 | exact fS4 | exact fS5 | exact fS6 | exact fS7 | exact fS8 | exact fS9 | exact fS10 | exact fS11) rfl ?_)
    refine Qj ?_
    refine Zw ?_
    (refine Qq rfl rfl rfl ?_)
    refine Qj ?_
    refine Fin.rfA (c := intC (tm + (1 + dt))) rfl rfl rfl rfl rfl (by with_reducible exact lInt) (Zt rfl) rfl ?_
    refine Fin.rfA (c := intC (1 + t)) rfl rfl rfl rfl rfl (by with_reducible exact lInt) (Zt rfl) rfl ?_
    refine Zw ?_
    (refine Qk (imul (by omega) (by omega)) rfl rfl rfl rfl ?_)
    refine Qj ?_
    refine Zw ?_
    (refine Qk (iadd (by omega) (by omega)) rfl rfl rfl rfl ?_)
    refine Qj ?_
    refine Fin.rmB rfl goNext (Zi bs q5 4 (by decide) (by decide) hb) rfl rfl rfl rfl rfl (fun y hy0 => ?_)
    obtain ⟨dd, q6⟩ := y
    dsimp only at hy0 ⊢
    refine Zw ?_
    (refine Qk (iadd (by omega) (by omega)) rfl rfl rfl rfl ?_)
    refine Qj ?_
    refine Zw ?_
    (refine QV rfl rfl rfl (by with_reducible first | exact fH0 | exact fH1 | exact fH2 | exact fS0 | exact fS1 | exact fS2 | exact fS3 | exact fS4 | exact fS5 | exact fS6 | exact fS7 | exact fS8 | exact fS9 | exact fS10 | exact fS11) rfl ?_)
    refine Qj ?_
    refine Fin.ra ?_
    refine Xh rfl rfl rfl rfl rfl (by with_reducible exact zInt) (Nat.le_of_ble_eq_true rfl) ?_
    refine Qj ?_
    refine Fin.rdone ?_
    refine hK _ _ ?_
    clear hK K
    generalize hbk : tm + (1 + dt) + 5 * (1 + t) + dd = bk
    generalize hnu : nu.set va.toNat (IntKind.i64.wrap (nu.getD va.toNat 0 + 1)) = nu2
    have hnl2 : nu2.length = 16 := by rw [← hnu, List.length_set]; exact hnl
    clear hnu
    (refine Qz (Qw (Qx fun K hK => ?_)); refine Qq rfl rfl rfl ?_; refine Qq rfl rfl rfl ?_)
    refine Xw goNext (Zi bs q6 5 (by decide) (by decide) hb) rfl rfl rfl rfl rfl (fun q hq7 => ?_)
    obtain ⟨di, q7⟩ := q
    dsimp only at hq7 ⊢
    (refine Qk (iadd (by omega) (by omega)) rfl rfl rfl rfl ?_; refine Qk (iadd (by omega) (by omega)) rfl rfl rfl rfl ?_; refine Qv rfl rfl rfl ?_; refine Qj (hK _ _ (Qz (Qw ?_))); clear hK K; refine Qx (fun K hK => ?_); refine QV rfl rfl rfl (by with_reducible first | exact fH0 | exact fH1 | exact fH2 | exact fS0 | exact fS1 | exact fS2 | exact fS3 | exact fS4 | exact fS5 | exact fS6 | exact fS7 | exact fS8 | exact fS9 | exact fS10 | exact fS11) rfl ?_; refine QJ rfl rfl rfl rfl rfl (by with_reducible first | exact lInt | exact Q9 | exact lAdrs | exact lPths | exact Q6) rfl ?_; refine Qv rfl rfl rfl ?_; refine Qj (hK _ _ (Qz (Qw (Qw ?_)))); clear hK K; refine Qx (fun K hK => ?_); refine QV rfl rfl rfl (by with_reducible first | exact fH0 | exact fH1 | exact fH2 | exact fS0 | exact fS1 | exact fS2 | exact fS3 | exact fS4 | exact fS5 | exact fS6 | exact fS7 | exact fS8 | exact fS9 | exact fS10 | exact fS11) rfl ?_; refine QJ rfl rfl rfl rfl rfl (by with_reducible first | exact lInt | exact Q9 | exact lAdrs | exact lPths | exact Q6) rfl ?_; refine Qq rfl rfl rfl ?_; refine Qd rfl rfl (by with_reducible first | exact sAdrs.und | exact sPths.und | exact sRes.und) (List.length_map ..) rfl ?_; refine Qk ileq rfl rfl rfl rfl ?_; refine Qj (hK _ _ (Qz ?_)); clear hK K)
    refine ZV (α := Ad) (fun _ => True) (fun a => [(0, .own 0), (1, .ct (intC most)), (2, .ct (boolC st)), (7, .own 1), (8, .own 2), (10, .ct (intC (id + (1 + di)))), (11, .own 3), (12, .ct (intC k)), (17, .own 5), (16, .ct (adrsC pp)), (18, .ct (adrF a))])
      (fun _ => [(5, .box 35 [intC va, intC 0, intC (nu.getD va.toNat 0), intC (tm + (1 + dt)), adrF ds, intC pr, intC f, intC (1 + t), boolC false, boolC false, intC bk, adrF 0, intC 0, intC 0, intC 0, intC 0, intC 0]), (4, .box 113 [intC va, adrF ds, intC pr, pthsC ps, adrF la]), (3, .box 117 (ints nu2)), (2, .row 35 17 (rss out)), (1, .row 113 5 (nts ns')), (0, .box 78 (codes bs q7))]) (fun a _ => ?_) (fun KK hN => ?_)
    rotate_left
    · refine Q2 rfl (fun h7 => ?_) (fun h7 => ?_)
      · (refine Qx (fun K hK => ?_); refine Qq rfl rfl rfl ?_; refine QV rfl rfl rfl (by with_reducible first | exact fH0 | exact fH1 | exact fH2 | exact fS0 | exact fS1 | exact fS2 | exact fS3 | exact fS4 | exact fS5 | exact fS6 | exact fS7 | exact fS8 | exact fS9 | exact fS10 | exact fS11) rfl ?_; refine QJ rfl rfl rfl rfl rfl (by with_reducible first | exact lInt | exact Q9 | exact lAdrs | exact lPths | exact Q6) rfl ?_; refine Qk (isub (by omega) (by omega)) rfl rfl rfl rfl ?_; refine Qg rfl rfl rfl (by with_reducible exact sAdrs) (by omega) (adrs_at (by omega) (by omega)) rfl ?_; refine Xy rfl rfl rfl (by with_reducible first | exact Q9 | exact lAdrs) rfl ?_; refine Qv rfl rfl rfl ?_; refine Qj (hK _ _ ?_); clear hK K)
        exact Qt hN _ trivial (by exact Qu rfl ⟨rfl, rfl, rfl, rfl, rfl, rfl, rfl, rfl, rfl, rfl, rfl, trivial⟩)
      · (refine Q1 ?_)
        exact Qt hN la trivial (by exact Qu rfl ⟨rfl, rfl, rfl, rfl, rfl, rfl, rfl, rfl, rfl, rfl, rfl, trivial⟩)
    refine Qw ?_
    refine ZV (α := Rs × Nat) (fun x => x.1.bk = bk) (fun _ => [(0, .own 0), (1, .ct (intC most)), (2, .ct (boolC st)), (7, .own 1), (8, .own 2), (10, .ct (intC (id + (1 + di)))), (11, .own 3), (12, .ct (intC k)), (17, .own 5)])
      (fun x => [(5, .box 35 (rsCs x.1)), (4, .box 113 [intC va, adrF ds, intC pr, pthsC ps, adrF la]), (3, .box 117 (ints nu2)), (2, .row 35 17 (rss out)), (1, .row 113 5 (nts ns')), (0, .box 78 (codes bs x.2))]) (fun x hx => ?_) (fun KK hN => ?_)
    rotate_left
    · (refine Qw (Qx fun K hK => ?_); refine Qq rfl rfl rfl ?_; refine Qk ineq rfl rfl rfl rfl ?_; refine Qq rfl rfl rfl ?_)
      refine X3 138 rfl (fun h8 => ?_) (fun h8 => ?_)
      · (refine Qq rfl rfl rfl ?_)
        refine Xw goBool (BoolB_ok bs q7 5 (by decide) (by decide) hb) rfl rfl rfl rfl rfl (fun q _ => ?_)
        obtain ⟨b3, q8⟩ := q
        dsimp only
        (refine Qp rfl rfl rfl ?_; refine QZ rfl rfl rfl rfl ?_; refine Qj (hK _ _ (Qz ?_)); clear hK K)
        refine XX rfl (fun _ => ?_) (fun _ => ?_)
        · (refine Qw (Qx fun K hK => ?_); refine Qq rfl rfl rfl ?_)
          refine Xw goBool (BoolB_ok bs q8 30 (by decide) (by decide) hb) rfl rfl rfl rfl rfl (fun q _ => ?_)
          obtain ⟨b4, q9⟩ := q
          dsimp only
          (refine QV rfl rfl rfl (by with_reducible first | exact fH0 | exact fH1 | exact fH2 | exact fS0 | exact fS1 | exact fS2 | exact fS3 | exact fS4 | exact fS5 | exact fS6 | exact fS7 | exact fS8 | exact fS9 | exact fS10 | exact fS11) rfl ?_; refine Xh rfl rfl rfl rfl rfl (by with_reducible first | exact zAddr | exact zInt | exact zPths | exact zBool1) (Nat.le_of_ble_eq_true rfl) ?_; refine QV rfl rfl rfl (by with_reducible first | exact fH0 | exact fH1 | exact fH2 | exact fS0 | exact fS1 | exact fS2 | exact fS3 | exact fS4 | exact fS5 | exact fS6 | exact fS7 | exact fS8 | exact fS9 | exact fS10 | exact fS11) rfl ?_; refine Xh rfl rfl rfl rfl rfl (by with_reducible first | exact zAddr | exact zInt | exact zPths | exact zBool1) (Nat.le_of_ble_eq_true rfl) ?_; refine Qj (hK _ _ (Qz (Qw ?_))); clear hK K; refine Qx (fun K hK => ?_); refine Qq rfl rfl rfl ?_; refine Qq rfl rfl rfl ?_)
          refine Qk (irem (p := id + (1 + di)) (by omega) (by omega)) rfl rfl rfl rfl ?_
          generalize (id + (1 + di)) % 65536 = idr
          refine Xq rfl (by with_reducible exact bAns) rfl (.one rfl rfl rfl rfl (.one rfl rfl rfl rfl (.one rfl rfl rfl rfl (.one rfl rfl rfl rfl (.one rfl rfl rfl rfl .nil))))) rfl ?_
          (refine QV rfl rfl rfl (by with_reducible first | exact fH0 | exact fH1 | exact fH2 | exact fS0 | exact fS1 | exact fS2 | exact fS3 | exact fS4 | exact fS5 | exact fS6 | exact fS7 | exact fS8 | exact fS9 | exact fS10 | exact fS11) rfl ?_)
          refine Ops.stNA rfl rfl rfl rfl rfl (by exact szAns) (Nat.le_of_ble_eq_true rfl) ?_
          refine Qj (hK _ _ ?_)
          clear hK K
          refine Qz ?_
          refine Qw ?_
          refine ZV (α := Int × Nat) (fun _ => True) (fun _ => [(0, .own 0), (1, .ct (intC most)), (2, .ct (boolC st)), (7, .own 1), (8, .own 2), (10, .ct (intC (id + (1 + di)))), (11, .own 3), (12, .ct (intC k)), (17, .own 5), (16, .ct (adrsC pp))])
            (fun x => [(5, .box 35 [intC va, intC 0, intC (nu.getD va.toNat 0), intC (tm + (1 + dt)), adrF ds, intC pr, intC f, intC (1 + t), boolC true, boolC b4, intC bk, adrF a, intC x.1, intC 0, intC 60, intC idr, intC 1]), (4, .box 113 [intC va, adrF ds, intC pr, pthsC ps, adrF la]), (3, .box 117 (ints nu2)), (2, .row 35 17 (rss out)), (1, .row 113 5 (nts ns')), (0, .box 78 (codes bs x.2))]) (fun x _ => ?_) (fun KK2 hN2 => ?_)
          rotate_left
          · (refine Qw (Qx fun K hK => ?_); refine QV rfl rfl rfl (by with_reducible first | exact fH0 | exact fH1 | exact fH2 | exact fS0 | exact fS1 | exact fS2 | exact fS3 | exact fS4 | exact fS5 | exact fS6 | exact fS7 | exact fS8 | exact fS9 | exact fS10 | exact fS11) rfl ?_; refine QJ rfl rfl rfl rfl rfl (by with_reducible first | exact lInt | exact Q9 | exact lAdrs | exact lPths | exact Q6) rfl ?_; refine Qq rfl rfl rfl ?_; refine Qd rfl rfl (by with_reducible first | exact sAdrs.und | exact sPths.und | exact sRes.und) (List.length_map ..) rfl ?_; refine Qk igtr rfl rfl rfl rfl ?_; refine Qj (hK _ _ (Qz ?_)); clear hK K)
            refine Q2 rfl (fun h9 => ?_) (fun h9 => ?_)
            · (refine Qx (fun K hK => ?_); refine Qq rfl rfl rfl ?_)
              refine Ops.litI [3, 3, 2] rfl rfl (by with_reducible exact sInts) rfl ⟨rfl, rfl, rfl, rfl, rfl, rfl, trivial⟩ (by decide) rfl ?_
              refine Xw goPick (Pick_ok bs q9 [3, 3, 2] (by decide) (by decide) hb) rfl rfl rfl rfl rfl (fun q hq8 => ?_)
              obtain ⟨ki, q10⟩ := q
              dsimp only
              (refine QV rfl rfl rfl (by with_reducible first | exact fH0 | exact fH1 | exact fH2 | exact fS0 | exact fS1 | exact fS2 | exact fS3 | exact fS4 | exact fS5 | exact fS6 | exact fS7 | exact fS8 | exact fS9 | exact fS10 | exact fS11) rfl ?_; refine X2 rfl rfl (by with_reducible first | exact fR0t | exact fR1t | exact fR2t | exact fN0 | exact fN1 | exact fN4) rfl ?_; refine Xh rfl rfl rfl rfl rfl (by with_reducible first | exact zAddr | exact zInt | exact zPths | exact zBool1) (Nat.le_of_ble_eq_true rfl) ?_; refine Qj (hK _ _ ?_); clear hK K)
              exact Qt hN2 (ki, q10) trivial (by exact Qu rfl ⟨rfl, rfl, rfl, rfl, rfl, rfl, rfl, rfl, rfl, rfl, trivial⟩)
            · (refine Q1 ?_)
              exact Qt hN2 (1, q9) trivial (by exact Qu rfl ⟨rfl, rfl, rfl, rfl, rfl, rfl, rfl, rfl, rfl, rfl, trivial⟩)
          obtain ⟨ki, q10⟩ := x
          dsimp only
          (refine Qw (Qx fun K hK => ?_); refine Qq rfl rfl rfl ?_)
          refine Xw goBool (BoolB_ok bs q10 5 (by decide) (by decide) hb) rfl rfl rfl rfl rfl (fun q _ => ?_)
          obtain ⟨b5, q11⟩ := q
          dsimp only
          (refine Qj (hK _ _ (Qz ?_)); clear hK K)
          refine XX rfl (fun _ => ?_) (fun _ => ?_)
          · (refine Qx (fun K hK => ?_); refine Qq rfl rfl rfl ?_)
            refine Xw goNext (Zi bs q11 65536 (by decide) (by decide) hb) rfl rfl rfl rfl rfl (fun q hq9 => ?_)
            obtain ⟨id2, q12⟩ := q
            dsimp only
            (refine QV rfl rfl rfl (by with_reducible first | exact fH0 | exact fH1 | exact fH2 | exact fS0 | exact fS1 | exact fS2 | exact fS3 | exact fS4 | exact fS5 | exact fS6 | exact fS7 | exact fS8 | exact fS9 | exact fS10 | exact fS11) rfl ?_; refine X2 rfl rfl (by with_reducible first | exact fR0t | exact fR1t | exact fR2t | exact fN0 | exact fN1 | exact fN4) rfl ?_; refine Xh rfl rfl rfl rfl rfl (by with_reducible first | exact zAddr | exact zInt | exact zPths | exact zBool1) (Nat.le_of_ble_eq_true rfl) ?_; refine Qj (hK _ _ ?_); clear hK K)
            exact Qt hN (⟨va, 0, nu.getD va.toNat 0, tm + (1 + dt), ds, pr, f, 1 + t, true, b4, bk, a, ki, 0, 60, id2, 1⟩, q12) rfl (by exact Qu rfl ⟨rfl, rfl, rfl, rfl, rfl, rfl, rfl, rfl, rfl, trivial⟩)
          · (refine Q1 ?_)
            exact Qt hN (⟨va, 0, nu.getD va.toNat 0, tm + (1 + dt), ds, pr, f, 1 + t, true, b4, bk, a, ki, 0, 60, idr, 1⟩, q11) rfl (by exact Qu rfl ⟨rfl, rfl, rfl, rfl, rfl, rfl, rfl, rfl, rfl, trivial⟩)
        · (refine Q1 ?_)
          exact Qt hN (⟨va, 0, nu.getD va.toNat 0, tm + (1 + dt), ds, pr, f, 1 + t, false, false, bk, 0, 0, 0, 0, 0, 0⟩, q8) rfl (by exact Qu rfl ⟨rfl, rfl, rfl, rfl, rfl, rfl, rfl, rfl, rfl, trivial⟩)
      · (refine Qy rfl rfl rfl ?_; refine Qy rfl rfl rfl ?_; refine Qy rfl rfl rfl ?_; refine QK rfl rfl rfl rfl ?_; refine Qj (hK _ _ (Qz (Xx rfl (Q1 ?_)))); clear hK K)
        exact Qt hN (⟨va, 0, nu.getD va.toNat 0, tm + (1 + dt), ds, pr, f, 1 + t, false, false, bk, 0, 0, 0, 0, 0, 0⟩, q7) rfl (by exact Qu rfl ⟨rfl, rfl, rfl, rfl, rfl, rfl, rfl, rfl, rfl, trivial⟩)
    obtain ⟨r, q8⟩ := x
    dsimp only at hx ⊢
    (refine Qw (Qx fun K hK => ?_); refine QV rfl rfl rfl (by with_reducible first | exact fH0 | exact fH1 | exact fH2 | exact fS0 | exact fS1 | exact fS2 | exact fS3 | exact fS4 | exact fS5 | exact fS6 | exact fS7 | exact fS8 | exact fS9 | exact fS10 | exact fS11) rfl ?_; refine QJ rfl rfl rfl rfl rfl (by with_reducible first | exact lInt | exact Q9 | exact lAdrs | exact lPths | exact Q6) rfl ?_; refine Qv rfl rfl rfl ?_; refine Qj (hK _ _ (Qz ?_)); clear hK K; refine Qx (fun K hK => ?_); refine Qq rfl rfl rfl ?_; refine Qa (n := 17) rfl rfl rfl rfl rfl (by with_reducible exact lRes) rfl ?_)
    refine X6 (n := 17) rfl rfl (by with_reducible exact sRes) rfl rfl (by decide) rfl ?_
    refine Qs out.length (rss (out ++ [r])) rfl rfl rfl rfl (by with_reducible exact sRes) (X1 out) rfl (by omega) (by omega) (rss_snocD out r) rfl ?_
    (refine Qv rfl rfl rfl ?_; refine Qj (hK _ _ (Qz ?_)); clear hK K; refine Qx (fun K hK => ?_); refine Qq rfl rfl rfl ?_; refine Qk (isub (by omega) (by omega)) rfl rfl rfl rfl ?_; refine Qv rfl rfl rfl ?_; refine Qj (hK _ _ (Q3 ?_)); clear hK K)
    refine Qm 5 ?_
    refine Qm 4 ?_
    refine Q7 ⟨k - 1, ns', r.bk, id + (1 + di), nu2, out ++ [r], q8⟩ (by dsimp only; omega) ⟨by dsimp only; omega, by simp; omega, by dsimp only; omega, by dsimp only; omega, hnt', by dsimp only; omega, by dsimp only; omega, by dsimp only; omega, by dsimp only; omega, hnl2⟩ (by exact Qu rfl ⟨rfl, rfl, rfl, rfl, rfl, rfl, rfl, rfl, rfl, trivial⟩)
  · refine St.frz 2 _ rfl (Zz _ _) (Ze rfl) ?_
    (refine Qn (Qz (Qw (Qx fun K hK => ?_))); refine Qq rfl rfl rfl ?_; refine Qv rfl rfl rfl ?_; refine Qj (hK _ _ (Qz (Q0 ?_))); clear hK K)
    refine Zf (out, q0) [_] rfl (QQ rfl QX) rfl rfl (by dsimp only; omega)
end Go.Proofs.YtlkdkbdgnjcopaaGreat
namespace Go.Own
section
variable {X : Ctx} {L : AL} {B : BL} {ops : Array Oper} {K : Act → World → Prop} {r : Pl} {k : Kd}
  {x y z : Operand} {d : Nat} {t t2 t' : TypeId} {pos : String} {af : Array Edge} {g : Option (Nat × Bool)}
theorem Ops.callNew {f : FuncId} {args : List Operand} {tys : Array TypeId} {As : List Sl} {α : Type} {J : α → Prop} {R : α → CT} {e : α → Ent} (a : Nat) (hgo : InGo X.P f) (hok : OkM X.P f As [] [] J (fun q => .ct (R q)) (fun q => [(a, e q)])) (hg : gd ops L g = some true) (hargs : evS L args = some As) (hn : Nat.blt d X.n = true)
    (hbor : ∀ gb, X.bor gb → X.S0 gb) (hi : bget B a = none) (hfix : (X.fix.all fun p => (bget B p.1).isSome) = true) (hL : noN a L = true)
    (h : ∀ q, J q → Ops X ops r ((d, .ct (R q)) :: L) ((a, e q) :: B) K) : Ops X ops (.cons ⟨some d, .call { callee := .value (.func f), args := args.toArray, argTypes := tys }, t, pos, af, g⟩ .any r) L B K := by
  refine Ops.callM B (fun j => !Nat.beq j a) hgo hok hg hargs hn hbor (fun j => rfl) (fun j hj => ?_) (fun j hj => ?_) (fun p hp => .inl (List.all_eq_true.1 hfix p hp)) (fun q j hq => ?_) (fun q hq => ?_)
  · have h0 : a ≠ j := fun e => by subst e; rw [hi] at hj; cases hj
    exact ⟨rfl, fun q => by rw [Ql _ _ h0]; rfl⟩
  · have h9 : a ≠ j := fun e => by subst e; rw [Nat.beq_refl] at hj; cases hj
    exact .inr fun q => by rw [Ql _ _ h9]; rfl
  · rcases hq with hq | ⟨_, hq⟩ <;> cases hq
  · rw [keepL_id hL]
    exact h q hq
theorem Entails.front {L' : AL} {B' : BL} (a : Nat) (e : Ent) (hb : bget B a = some e) (h : Entails X L ((a, e) :: bdel B a) L' B') : Entails X L B L' B' := fun x ρ w hI => h x ρ w (hI.bext fun j => by
  by_cases hj : a = j
  · subst hj; rw [Xj, hb]
  · rw [Ql _ _ hj, Zy _ (Ne.symm hj)])
end
end Go.Own
namespace Go.Own
open Go.RowKit
section
variable {X : Ctx} {L : AL} {B : BL} {ops : Array Oper} {K : Act → World → Prop} {r : Pl} {k : Kd}
  {x y z : Operand} {d : Nat} {t t2 t' : TypeId} {pos : String} {af : Array Edge} {g : Option (Nat × Bool)}
theorem Ops.appRow (i : Nat) {j el n bytes : Nat} {zv : Value} {cs : List CT} (m : Nat) (hg : gd ops L g = some true) (hx : ev L x = some (.ct (.ex (.slice none 0 0)))) (hy : ev L y = some (.own j)) (hj : bget B j = some (.row el n cs)) (hT : SlcT X.P t el n bytes zv) (hl : cs.length = m * n) (ho : ones cs = true) (hb : m * bytes ≤ 140737488355328) (hmx : m ≤ 140737488355328) (hN : noN i L = true) (hB : bget B i = none) (hn : Nat.blt d X.n = true)
    (h : Ops X ops r ((d, .own i) :: L) ((i, .row el n cs) :: B) K) : Ops X ops (.cons ⟨some d, .call { callee := .builtin .append, args := #[x, y], argTypes := #[t, t] }, t', pos, af, g⟩ .any r) L B K :=
  Ops.mkE (k := .any) rfl hg rfl hn hN hB (fun a ρ w hI => by
    have hy1 : a.eval y = ρ j := hI.ev hy
    obtain ⟨nf, h1, h2, h3, h4⟩ := hT.inf
    obtain ⟨m', vs, hown, hc⟩ := (hI.ent j _ hj).1
    have hlv := hc.length
    rw [hown.1, hl] at hlv
    have hmm : m' = m := Nat.eq_of_mul_eq_mul_right hT.pos hlv
    subst hmm
    have hmax : 0 + m' ≤ maxLen := by simp only [maxLen]; omega
    have key : ∃ v' w', (Builtin.append_ #[t, t] t' #[.slice none 0 0, ρ j]).run X.P w = .ok v' w' ∧ w'.ownsRow 0 el n v' (0 + m') ([] ++ vs) ∧ w.grownBy w' (Value.slice none 0 0).ownBlock ∧ (blk v' = blk (.slice none 0 0) ∨ ∀ g, blk v' = some g → w.heap.size ≤ g) := by
      have how : w.ownsRow 0 el n (.slice none 0 0) 0 [] := World.ownsRow_nil _ _ _ _
      rcases hown.2 with ⟨e1, e2⟩ | ⟨gb, cap, cur, e1, e2⟩
      · have e0 : vs = [] ∧ m' = 0 := by
          have h5 := hown.1
          rw [e2, Nat.zero_mul] at h5
          exact ⟨List.length_eq_zero_iff.1 h5, e2⟩
        obtain ⟨e3, e4⟩ := e0
        subst e3; subst e4
        rw [e1]
        exact ⟨.slice none 0 0, w, by simp [Builtin.append_, run_underlying hT.und, sizeOf, typeInfo, h1, Builtin.lenOf, Builtin.firstCells], how, ⟨rfl, rfl, rfl, Nat.le_refl _, fun _ _ _ => rfl⟩, .inl rfl⟩
      · rw [e1]
        rw [e1] at hown
        exact run_append_blk (P := X.P) w t t' el nf zv n bytes hT.und h1 h4 h2 h3 hT.zs hT.pos _ 0 [] how ⟨gb, 0, none⟩ m' cap vs hown.1 (hown.cells (g := gb) rfl) (ones_cells ho hc) hmax (by simpa using hb)
    obtain ⟨v', w', r1, r3, r4, r5⟩ := key
    refine ⟨v', w', Zc (args := [x, y]) (fun _ => by
      simp only [List.map_cons, List.map_nil, hI.evx hx, hy1]
      exact X9 r1), ⟨r4.os, r4.tape, r4.output, r4.size, fun q hq => r4.block q hq (fun e => by cases e), run_drawn _ _ r1⟩, fun gb hgb => ?_, fun S' hk => ⟨0 + m', [] ++ vs, r3, hc.mono hk⟩⟩
    rcases r5 with h5 | h5
    · rw [h5] at hgb; cases hgb
    · exact h5 gb hgb) h
theorem Ops.frz {l : Pl} (i : Nat) {e : Ent} (T : Ty) (hi : bget B i = some e) (hT : e.frozen T) (hS : Own.okFix X i) (h : Ops X ops l (frzL i T L) (bdel B i) K) (hf : noFix X i = true := by rfl) : Ops X ops l L B K := Fin.frz i T hi hT hS h hf
end
theorem St.cutE {X : Ctx} {L : AL} {B : BL} {c y : Code} {Q : Exit → Act → World → Prop} {α : Type} (J : α → Prop) (Lx : α → AL) (Bx : α → BL) (h1 : ∀ q, J q → St X (Lx q) (Bx q) y Q)
    (h2 : ∀ K : Exit → Act → World → Prop, (∀ q, J q → Fin X (Lx q) (Bx q) (fun a w => K .normal a w)) → (∀ i a w, Q (.exit i) a w → K (.exit i) a w) → St X L B c K) : St X L B c (Exit.then (y.wp X.P Q) Q) :=
  h2 _ (fun q hq => h1 q hq) (fun _ _ _ h => h)
end Go.Own
namespace Go.Proofs.YtlkdkbdgnjcopaaGreat
open Go.Own
attribute [local irreducible] St Ops Go.Own.Fin Ok OkB OkN OkT OkL OkF
def anI (r : Rs) : List Int := [(r.fr.val : Int), r.ki, r.co, r.le, r.id, r.qu]
def P1 (r : Rs) : Prop := r.va < 0 ∨ 15 < r.va ∨ r.ru < 0 ∨ 63 < r.ru ∨ r.nu < 0 ∨ 999 < r.nu ∨ r.tm < 0 ∨ 2251799813685248 < r.tm ∨ r.bk < 0 ∨ 2251799813685248 < r.bk ∨ r.bk < r.tm ∨ r.fl < 0 ∨ 1023 < r.fl ∨ r.tt < 1 ∨ 255 < r.tt
def P2 (r : Rs) : Prop := r.pr ≠ 1 ∧ r.pr ≠ 6 ∧ r.pr ≠ 17
def P3 (r : Rs) : Prop := r.an = false ∧ (r.db = true ∨ anI r ≠ [0, 0, 0, 0, 0, 0])
def P4 (r : Rs) : Prop := r.an = true ∧ (r.ki < 1 ∨ 5 < r.ki ∨ r.co < 0 ∨ 255 < r.co ∨ r.le < 0 ∨ 255 < r.le ∨ r.qu < 0 ∨ 255 < r.qu ∨ r.id < 0 ∨ 65535 < r.id)
instance (r : Rs) : Decidable (P1 r) := by unfold P1; infer_instance
instance (r : Rs) : Decidable (P2 r) := by unfold P2; infer_instance
instance (r : Rs) : Decidable (P3 r) := by unfold P3; infer_instance
instance (r : Rs) : Decidable (P4 r) := by unfold P4; infer_instance
def ckE (r : Rs) : Int := if P1 r then 1 else if P2 r then 16 else if P3 r then 7 else if P4 r then 1 else 0
def okR (r : Rs) : Bool := decide (ckE r = 0) && (decide (r.dst.val ≠ 0) && (!r.an || decide (r.fr.val ≠ 0)))
theorem eAns : EqS Tryz.prog 33 [.u32, .i64, .i64, .i64, .i64, .i64] := ⟨by kernel_rfl, by kernel_rfl, by kernel_rfl, by kernel_rfl⟩
theorem Z1 : InGo Tryz.prog 144 := InGo.of Tryz.func144 rfl (by decide)
theorem gojrun : InGo Tryz.prog 143 := InGo.of Tryz.func143 rfl (by decide)
theorem gojCheck : InGo Tryz.prog 114 := InGo.of Tryz.func114 rfl (by decide)
theorem gorident : InGo Tryz.prog 157 := InGo.of Tryz.func157 rfl (by decide)
theorem gooctet : InGo Tryz.prog 158 := InGo.of Tryz.func158 rfl (by decide)
theorem gorCheckR : InGo Tryz.prog 119 := InGo.of Tryz.func119 rfl (by decide)
theorem goValidR : InGo Tryz.prog 73 := InGo.of Tryz.func73 rfl (by decide)
theorem gorValidR : InGo Tryz.prog 79 := InGo.of Tryz.func79 rfl (by decide)
theorem ZX (n m : Int) : Ok Tryz.prog 144 [intC n, intC m] (boolC (decide (0 ≤ n ∧ n ≤ m))) := by
  refine Ok.enter Tryz.func144 rfl _ Tryz.ntmps144 rfl ?_
  intro S w
  (refine Qw (Qx fun K hK => ?_); refine Qv rfl rfl rfl ?_; refine Qj (hK _ _ (Qz (Qw ?_))); clear hK K; refine Qx (fun K hK => ?_); refine Qq rfl rfl rfl ?_; refine Qk igeq rfl rfl rfl rfl ?_; refine Qq rfl rfl rfl ?_)
  refine Q5 7 rfl (fun h => ?_) (fun h => ?_)
  · (refine Qq rfl rfl rfl ?_; refine Qq rfl rfl rfl ?_; refine Qk ileq rfl rfl rfl rfl ?_; refine QZ rfl rfl rfl rfl ?_; refine Qv rfl rfl rfl ?_; refine Qj (hK _ _ (Qz (Q0 ?_))); clear hK K)
    refine QU [_] rfl (QQ rfl QX) (by rw [show decide (0 ≤ n ∧ n ≤ m) = decide (n ≤ m) from decide_eq_decide.2 ⟨fun h2 => h2.2, fun h2 => ⟨h, h2⟩⟩]; rfl) rfl
  · (refine Qy rfl rfl rfl ?_; refine Qy rfl rfl rfl ?_; refine Qy rfl rfl rfl ?_; refine QK rfl rfl rfl rfl ?_; refine Qv rfl rfl rfl ?_; refine Qj (hK _ _ (Qz (Q0 ?_))); clear hK K)
    refine QU [_] rfl (QQ rfl QX) (by rw [decide_eq_false (fun h2 : 0 ≤ n ∧ n ≤ m => h h2.1)]; rfl) rfl
theorem octet_ok (n : Int) : Ok Tryz.prog 158 [intC n] (boolC (decide (0 ≤ n ∧ n ≤ 255))) := by
  refine Ok.enter Tryz.func158 rfl _ Tryz.ntmps158 rfl ?_
  intro S w
  (refine Qw (Qx fun K hK => ?_); refine Qv rfl rfl rfl ?_; refine Qj (hK _ _ (Qz (Qw ?_))); clear hK K; refine Qx (fun K hK => ?_); refine Qq rfl rfl rfl ?_; refine Qk igeq rfl rfl rfl rfl ?_; refine Qq rfl rfl rfl ?_)
  refine Q5 5 rfl (fun h => ?_) (fun h => ?_)
  · (refine Qq rfl rfl rfl ?_; refine Qk ileq rfl rfl rfl rfl ?_; refine QZ rfl rfl rfl rfl ?_; refine Qv rfl rfl rfl ?_; refine Qj (hK _ _ (Qz (Q0 ?_))); clear hK K)
    refine QU [_] rfl (QQ rfl QX) (by rw [show decide (0 ≤ n ∧ n ≤ 255) = decide (n ≤ 255) from decide_eq_decide.2 ⟨fun h2 => h2.2, fun h2 => ⟨h, h2⟩⟩]; rfl) rfl
  · (refine Qy rfl rfl rfl ?_; refine Qy rfl rfl rfl ?_; refine QK rfl rfl rfl rfl ?_; refine Qv rfl rfl rfl ?_; refine Qj (hK _ _ (Qz (Q0 ?_))); clear hK K)
    refine QU [_] rfl (QQ rfl QX) (by rw [decide_eq_false (fun h2 : 0 ≤ n ∧ n ≤ 255 => h h2.1)]; rfl) rfl
theorem jrun_ok (n m : Int) : Ok Tryz.prog 143 [intC n, intC m] (boolC (decide ((0 ≤ n ∧ n ≤ 15) ∧ 0 ≤ m ∧ m ≤ 63))) := by
  refine Ok.enter Tryz.func143 rfl _ Tryz.ntmps143 rfl ?_
  intro S w
  (refine Qw (Qx fun K hK => ?_); refine Qv rfl rfl rfl ?_; refine Qj (hK _ _ (Qz (Qw ?_))); clear hK K; refine Qx (fun K hK => ?_); refine Qq rfl rfl rfl ?_)
  refine QW Z1 (ZX n 15) rfl rfl rfl rfl ?_
  (refine Qq rfl rfl rfl ?_)
  refine Q5 7 rfl (fun h => ?_) (fun h => ?_)
  · (refine Qq rfl rfl rfl ?_)
    refine QW Z1 (ZX m 63) rfl rfl rfl rfl ?_
    (refine QZ rfl rfl rfl rfl ?_; refine Qv rfl rfl rfl ?_; refine Qj (hK _ _ (Qz (Q0 ?_))); clear hK K)
    refine QU [_] rfl (QQ rfl QX) (by rw [show decide ((0 ≤ n ∧ n ≤ 15) ∧ 0 ≤ m ∧ m ≤ 63) = decide (0 ≤ m ∧ m ≤ 63) from decide_eq_decide.2 ⟨fun h2 => h2.2, fun h2 => ⟨h, h2⟩⟩]; rfl) rfl
  · (refine Qy rfl rfl rfl ?_; refine Qy rfl rfl rfl ?_; refine QK rfl rfl rfl rfl ?_; refine Qv rfl rfl rfl ?_; refine Qj (hK _ _ (Qz (Q0 ?_))); clear hK K)
    refine QU [_] rfl (QQ rfl QX) (by rw [decide_eq_false (fun h2 : (0 ≤ n ∧ n ≤ 15) ∧ 0 ≤ m ∧ m ≤ 63 => h h2.1)]; rfl) rfl
theorem rident_ok (n m : Int) : Ok Tryz.prog 157 [intC n, intC m] (boolC (decide ((0 ≤ n ∧ n ≤ 15) ∧ 0 ≤ m ∧ m ≤ 63))) := by
  refine Ok.enter Tryz.func157 rfl _ Tryz.ntmps157 rfl ?_
  intro S w
  (refine Qw (Qx fun K hK => ?_); refine Qv rfl rfl rfl ?_; refine Qj (hK _ _ (Qz (Qw ?_))); clear hK K; refine Qx (fun K hK => ?_); refine Qq rfl rfl rfl ?_; refine Qk igeq rfl rfl rfl rfl ?_; refine Qq rfl rfl rfl ?_)
  refine Q5 7 rfl (fun h => ?_) (fun h => ?_)
  rotate_left
  · (refine Qy rfl rfl rfl ?_; refine Qy rfl rfl rfl ?_; refine QK rfl rfl rfl rfl ?_; refine Qq rfl rfl rfl ?_; refine Qy rfl rfl rfl ?_; refine Qy rfl rfl rfl ?_; refine QK rfl rfl rfl rfl ?_; refine Qq rfl rfl rfl ?_; refine Qy rfl rfl rfl ?_; refine Qy rfl rfl rfl ?_; refine QK rfl rfl rfl rfl ?_; refine Qv rfl rfl rfl ?_; refine Qj (hK _ _ (Qz (Q0 ?_))); clear hK K)
    refine QU [_] rfl (QQ rfl QX) (by rw [decide_eq_false (fun h2 : (0 ≤ n ∧ n ≤ 15) ∧ 0 ≤ m ∧ m ≤ 63 => by omega)]; rfl) rfl
  (refine Qq rfl rfl rfl ?_; refine Qk ilss rfl rfl rfl rfl ?_; refine QZ rfl rfl rfl rfl ?_; refine Qq rfl rfl rfl ?_)
  refine Q5 11 rfl (fun h3 => ?_) (fun h3 => ?_)
  rotate_left
  · (refine Qy rfl rfl rfl ?_; refine Qy rfl rfl rfl ?_; refine QK rfl rfl rfl rfl ?_; refine Qq rfl rfl rfl ?_; refine Qy rfl rfl rfl ?_; refine Qy rfl rfl rfl ?_; refine QK rfl rfl rfl rfl ?_; refine Qv rfl rfl rfl ?_; refine Qj (hK _ _ (Qz (Q0 ?_))); clear hK K)
    refine QU [_] rfl (QQ rfl QX) (by rw [decide_eq_false (fun h2 : (0 ≤ n ∧ n ≤ 15) ∧ 0 ≤ m ∧ m ≤ 63 => by omega)]; rfl) rfl
  (refine Qq rfl rfl rfl ?_; refine Qk igeq rfl rfl rfl rfl ?_; refine QZ rfl rfl rfl rfl ?_; refine Qq rfl rfl rfl ?_)
  refine Q5 15 rfl (fun h4 => ?_) (fun h4 => ?_)
  rotate_left
  · (refine Qy rfl rfl rfl ?_; refine Qy rfl rfl rfl ?_; refine QK rfl rfl rfl rfl ?_; refine Qv rfl rfl rfl ?_; refine Qj (hK _ _ (Qz (Q0 ?_))); clear hK K)
    refine QU [_] rfl (QQ rfl QX) (by rw [decide_eq_false (fun h2 : (0 ≤ n ∧ n ≤ 15) ∧ 0 ≤ m ∧ m ≤ 63 => by omega)]; rfl) rfl
  (refine Qq rfl rfl rfl ?_; refine Qk ilss rfl rfl rfl rfl ?_; refine QZ rfl rfl rfl rfl ?_; refine Qv rfl rfl rfl ?_; refine Qj (hK _ _ (Qz (Q0 ?_))); clear hK K)
  refine QU [_] rfl (QQ rfl QX) (by rw [show decide ((0 ≤ n ∧ n ≤ 15) ∧ 0 ≤ m ∧ m ≤ 63) = decide (m < 64) from decide_eq_decide.2 ⟨fun h2 => by omega, fun h2 => by omega⟩]; rfl) rfl
set_option maxHeartbeats 4000000 in
theorem jCheck_ok (r : Rs) : Ok Tryz.prog 114 [rsC r] (intC (ckE r)) := by
  refine Ok.enter Tryz.func114 rfl _ Tryz.ntmps114 rfl ?_
  intro S w
  (refine Qw (Qx fun K hK => ?_); refine Xk 0 rfl rfl rfl rfl rfl rfl rfl ?_; refine Qv rfl rfl rfl ?_; refine Qj (hK _ _ (Qz (Qw ?_))); clear hK K; refine Qx (fun K hK => ?_); refine QV rfl rfl rfl (by with_reducible first | exact fS0 | exact fS1 | exact fS2 | exact fS3 | exact fS4 | exact fS5 | exact fS6 | exact fS7 | exact fS8 | exact fS9 | exact fS10 | exact fS11 | exact fN0 | exact fN1 | exact fN2 | exact fN3 | exact fN4 | exact fN5) rfl ?_)
  refine Ops.ldNA (n := 6) rfl rfl rfl rfl (Nat.le_of_ble_eq_true rfl) (by with_reducible exact lAns) rfl ?_
  refine Qh 1 rfl rfl (by with_reducible exact zvAns) rfl rfl rfl ?_
  refine Qe 6 rfl rfl rfl rfl rfl (by with_reducible exact szAns) rfl rfl ?_
  (refine Qj (hK _ _ (Qz (Qw (Q4 (Qw (Qw ?_)))))); clear hK K; refine Qx (fun K hK => ?_); refine QV rfl rfl rfl (by with_reducible first | exact fS0 | exact fS1 | exact fS2 | exact fS3 | exact fS4 | exact fS5 | exact fS6 | exact fS7 | exact fS8 | exact fS9 | exact fS10 | exact fS11 | exact fN0 | exact fN1 | exact fN2 | exact fN3 | exact fN4 | exact fN5) rfl ?_; refine QJ rfl rfl rfl rfl rfl (by with_reducible first | exact lInt | exact Q9 | exact Q6 | exact lRess) rfl ?_; refine QV rfl rfl rfl (by with_reducible first | exact fS0 | exact fS1 | exact fS2 | exact fS3 | exact fS4 | exact fS5 | exact fS6 | exact fS7 | exact fS8 | exact fS9 | exact fS10 | exact fS11 | exact fN0 | exact fN1 | exact fN2 | exact fN3 | exact fN4 | exact fN5) rfl ?_; refine QJ rfl rfl rfl rfl rfl (by with_reducible first | exact lInt | exact Q9 | exact Q6 | exact lRess) rfl ?_)
  refine QW gojrun (jrun_ok r.va r.ru) rfl rfl rfl rfl ?_
  refine Q5 11 rfl (fun h1 => ?_) (fun h1 => ?_)
  rotate_left
  · (refine Qp rfl rfl rfl ?_; refine Qv rfl rfl rfl ?_; refine Qj (hK _ _ (Qz (Qo rfl (Q1 (Qz (Qo rfl (Qw ?_))))))); clear hK K; refine Qx (fun K hK => ?_); refine Qv rfl rfl rfl ?_; refine Qj (hK _ _ (Qz (Q0 (Q8 (QY ?_))))); clear hK K)
    refine QU [_] rfl (QQ rfl QX) (by rw [show ckE r = 1 from if_pos (by unfold P1; omega)]; rfl) rfl
  (refine Qp rfl rfl rfl ?_; refine Qv rfl rfl rfl ?_; refine Qj (hK _ _ (Qz (Xx rfl (Qw ?_)))); clear hK K; refine Qx (fun K hK => ?_); refine QV rfl rfl rfl (by with_reducible first | exact fS0 | exact fS1 | exact fS2 | exact fS3 | exact fS4 | exact fS5 | exact fS6 | exact fS7 | exact fS8 | exact fS9 | exact fS10 | exact fS11 | exact fN0 | exact fN1 | exact fN2 | exact fN3 | exact fN4 | exact fN5) rfl ?_; refine QJ rfl rfl rfl rfl rfl (by with_reducible first | exact lInt | exact Q9 | exact Q6 | exact lRess) rfl ?_)
  refine QW Z1 (ZX r.nu 999) rfl rfl rfl rfl ?_
  refine Q5 15 rfl (fun h2 => ?_) (fun h2 => ?_)
  rotate_left
  · (refine Qp rfl rfl rfl ?_; refine Qv rfl rfl rfl ?_; refine Qj (hK _ _ (Qz (Qo rfl (Q1 (Qz (Qo rfl (Qw ?_))))))); clear hK K; refine Qx (fun K hK => ?_); refine Qv rfl rfl rfl ?_; refine Qj (hK _ _ (Qz (Q0 (Q8 (QY ?_))))); clear hK K)
    refine QU [_] rfl (QQ rfl QX) (by rw [show ckE r = 1 from if_pos (by unfold P1; omega)]; rfl) rfl
  (refine Qp rfl rfl rfl ?_; refine Qv rfl rfl rfl ?_; refine Qj (hK _ _ (Qz (Xx rfl (Qw ?_)))); clear hK K; refine Qx (fun K hK => ?_); refine QV rfl rfl rfl (by with_reducible first | exact fS0 | exact fS1 | exact fS2 | exact fS3 | exact fS4 | exact fS5 | exact fS6 | exact fS7 | exact fS8 | exact fS9 | exact fS10 | exact fS11 | exact fN0 | exact fN1 | exact fN2 | exact fN3 | exact fN4 | exact fN5) rfl ?_; refine QJ rfl rfl rfl rfl rfl (by with_reducible first | exact lInt | exact Q9 | exact Q6 | exact lRess) rfl ?_)
  refine QW Z1 (ZX r.tm 2251799813685248) rfl rfl rfl rfl ?_
  refine Q5 19 rfl (fun h3 => ?_) (fun h3 => ?_)
  rotate_left
  · (refine Qp rfl rfl rfl ?_; refine Qv rfl rfl rfl ?_; refine Qj (hK _ _ (Qz (Qo rfl (Q1 (Qz (Qo rfl (Qw ?_))))))); clear hK K; refine Qx (fun K hK => ?_); refine Qv rfl rfl rfl ?_; refine Qj (hK _ _ (Qz (Q0 (Q8 (QY ?_))))); clear hK K)
    refine QU [_] rfl (QQ rfl QX) (by rw [show ckE r = 1 from if_pos (by unfold P1; omega)]; rfl) rfl
  (refine Qp rfl rfl rfl ?_; refine Qv rfl rfl rfl ?_; refine Qj (hK _ _ (Qz (Xx rfl (Qw ?_)))); clear hK K; refine Qx (fun K hK => ?_); refine QV rfl rfl rfl (by with_reducible first | exact fS0 | exact fS1 | exact fS2 | exact fS3 | exact fS4 | exact fS5 | exact fS6 | exact fS7 | exact fS8 | exact fS9 | exact fS10 | exact fS11 | exact fN0 | exact fN1 | exact fN2 | exact fN3 | exact fN4 | exact fN5) rfl ?_; refine QJ rfl rfl rfl rfl rfl (by with_reducible first | exact lInt | exact Q9 | exact Q6 | exact lRess) rfl ?_)
  refine QW Z1 (ZX r.bk 2251799813685248) rfl rfl rfl rfl ?_
  refine Q5 23 rfl (fun h4 => ?_) (fun h4 => ?_)
  rotate_left
  · (refine Qp rfl rfl rfl ?_; refine Qv rfl rfl rfl ?_; refine Qj (hK _ _ (Qz (Qo rfl (Q1 (Qz (Qo rfl (Qw ?_))))))); clear hK K; refine Qx (fun K hK => ?_); refine Qv rfl rfl rfl ?_; refine Qj (hK _ _ (Qz (Q0 (Q8 (QY ?_))))); clear hK K)
    refine QU [_] rfl (QQ rfl QX) (by rw [show ckE r = 1 from if_pos (by unfold P1; omega)]; rfl) rfl
  (refine Qp rfl rfl rfl ?_; refine Qv rfl rfl rfl ?_; refine Qj (hK _ _ (Qz (Xx rfl (Qw ?_)))); clear hK K; refine Qx (fun K hK => ?_); refine QV rfl rfl rfl (by with_reducible first | exact fS0 | exact fS1 | exact fS2 | exact fS3 | exact fS4 | exact fS5 | exact fS6 | exact fS7 | exact fS8 | exact fS9 | exact fS10 | exact fS11 | exact fN0 | exact fN1 | exact fN2 | exact fN3 | exact fN4 | exact fN5) rfl ?_; refine QJ rfl rfl rfl rfl rfl (by with_reducible first | exact lInt | exact Q9 | exact Q6 | exact lRess) rfl ?_; refine QV rfl rfl rfl (by with_reducible first | exact fS0 | exact fS1 | exact fS2 | exact fS3 | exact fS4 | exact fS5 | exact fS6 | exact fS7 | exact fS8 | exact fS9 | exact fS10 | exact fS11 | exact fN0 | exact fN1 | exact fN2 | exact fN3 | exact fN4 | exact fN5) rfl ?_; refine QJ rfl rfl rfl rfl rfl (by with_reducible first | exact lInt | exact Q9 | exact Q6 | exact lRess) rfl ?_; refine Qk ilss rfl rfl rfl rfl ?_; refine Qv rfl rfl rfl ?_; refine Qj (hK _ _ (Qz ?_)); clear hK K)
  refine Q2 rfl (fun h5 => ?_) (fun h5 => ?_)
  · (refine Q1 (Qz ?_))
    refine Q2 rfl (fun _ => ?_) (fun h => absurd h5 h)
    (refine Qw (Qx fun K hK => ?_); refine Qv rfl rfl rfl ?_; refine Qj (hK _ _ (Qz (Q0 (Q8 (QY ?_))))); clear hK K)
    refine QU [_] rfl (QQ rfl QX) (by rw [show ckE r = 1 from if_pos (by unfold P1; omega)]; rfl) rfl
  (refine Qw (Qx fun K hK => ?_); refine QV rfl rfl rfl (by with_reducible first | exact fS0 | exact fS1 | exact fS2 | exact fS3 | exact fS4 | exact fS5 | exact fS6 | exact fS7 | exact fS8 | exact fS9 | exact fS10 | exact fS11 | exact fN0 | exact fN1 | exact fN2 | exact fN3 | exact fN4 | exact fN5) rfl ?_; refine QJ rfl rfl rfl rfl rfl (by with_reducible first | exact lInt | exact Q9 | exact Q6 | exact lRess) rfl ?_)
  refine QW Z1 (ZX r.fl 1023) rfl rfl rfl rfl ?_
  refine Q5 32 rfl (fun h6 => ?_) (fun h6 => ?_)
  rotate_left
  · (refine Qp rfl rfl rfl ?_; refine Qv rfl rfl rfl ?_; refine Qj (hK _ _ (Qz (Qo rfl (Q1 (Qz (Qo rfl (Qw ?_))))))); clear hK K; refine Qx (fun K hK => ?_); refine Qv rfl rfl rfl ?_; refine Qj (hK _ _ (Qz (Q0 (Q8 (QY ?_))))); clear hK K)
    refine QU [_] rfl (QQ rfl QX) (by rw [show ckE r = 1 from if_pos (by unfold P1; omega)]; rfl) rfl
  (refine Qp rfl rfl rfl ?_; refine Qv rfl rfl rfl ?_; refine Qj (hK _ _ (Qz (Xx rfl ?_))); clear hK K; refine Qx (fun K hK => ?_); refine QV rfl rfl rfl (by with_reducible first | exact fS0 | exact fS1 | exact fS2 | exact fS3 | exact fS4 | exact fS5 | exact fS6 | exact fS7 | exact fS8 | exact fS9 | exact fS10 | exact fS11 | exact fN0 | exact fN1 | exact fN2 | exact fN3 | exact fN4 | exact fN5) rfl ?_; refine QJ rfl rfl rfl rfl rfl (by with_reducible first | exact lInt | exact Q9 | exact Q6 | exact lRess) rfl ?_; refine Qk ilss rfl rfl rfl rfl ?_; refine Qq rfl rfl rfl ?_)
  refine Q5 37 rfl (fun h7 => ?_) (fun h7 => ?_)
  · (refine Qy rfl rfl rfl ?_; refine Qy rfl rfl rfl ?_; refine Qy rfl rfl rfl ?_; refine QZ rfl rfl rfl rfl ?_; refine Qv rfl rfl rfl ?_; refine Qj (hK _ _ (Qz (Qo rfl (Qw ?_)))); clear hK K; refine Qx (fun K hK => ?_); refine Qv rfl rfl rfl ?_; refine Qj (hK _ _ (Qz (Q0 (Q8 (QY ?_))))); clear hK K)
    refine QU [_] rfl (QQ rfl QX) (by rw [show ckE r = 1 from if_pos (by unfold P1; omega)]; rfl) rfl
  (refine QV rfl rfl rfl (by with_reducible first | exact fS0 | exact fS1 | exact fS2 | exact fS3 | exact fS4 | exact fS5 | exact fS6 | exact fS7 | exact fS8 | exact fS9 | exact fS10 | exact fS11 | exact fN0 | exact fN1 | exact fN2 | exact fN3 | exact fN4 | exact fN5) rfl ?_; refine QJ rfl rfl rfl rfl rfl (by with_reducible first | exact lInt | exact Q9 | exact Q6 | exact lRess) rfl ?_; refine Qk igtr rfl rfl rfl rfl ?_; refine QK rfl rfl rfl rfl ?_; refine Qv rfl rfl rfl ?_; refine Qj (hK _ _ (Qz ?_)); clear hK K)
  refine Q2 rfl (fun h8 => ?_) (fun h8 => ?_)
  · (refine Qw (Qx fun K hK => ?_); refine Qv rfl rfl rfl ?_; refine Qj (hK _ _ (Qz (Q0 (Q8 (QY ?_))))); clear hK K)
    refine QU [_] rfl (QQ rfl QX) (by rw [show ckE r = 1 from if_pos (by unfold P1; omega)]; rfl) rfl
  have n1 : ¬ P1 r := by unfold P1; omega
  clear h1 h2 h3 h4 h5 h6 h7 h8
  refine Qw ?_
  refine ZV (α := Bool) (fun b => b = decide (P2 r)) (fun b => [(1, .own 0), (3, .own 1), (42, .ct (boolC b))]) (fun _ => [(1, .box 33 [adrC r.fr.val, intC r.ki, intC r.co, intC r.le, intC r.id, intC r.qu]), (0, .box 35 (rsCs r))]) (fun b hb => ?_) (fun KK hN => ?_)
  rotate_left
  · (refine Qx (fun K hK => ?_); refine QV rfl rfl rfl (by with_reducible first | exact fS0 | exact fS1 | exact fS2 | exact fS3 | exact fS4 | exact fS5 | exact fS6 | exact fS7 | exact fS8 | exact fS9 | exact fS10 | exact fS11 | exact fN0 | exact fN1 | exact fN2 | exact fN3 | exact fN4 | exact fN5) rfl ?_; refine QJ rfl rfl rfl rfl rfl (by with_reducible first | exact lInt | exact Q9 | exact Q6 | exact lRess) rfl ?_; refine Qk ineq rfl rfl rfl rfl ?_; refine Qq rfl rfl rfl ?_)
    refine Q5 46 rfl (fun h9 => ?_) (fun h9 => ?_)
    · (refine QV rfl rfl rfl (by with_reducible first | exact fS0 | exact fS1 | exact fS2 | exact fS3 | exact fS4 | exact fS5 | exact fS6 | exact fS7 | exact fS8 | exact fS9 | exact fS10 | exact fS11 | exact fN0 | exact fN1 | exact fN2 | exact fN3 | exact fN4 | exact fN5) rfl ?_; refine QJ rfl rfl rfl rfl rfl (by with_reducible first | exact lInt | exact Q9 | exact Q6 | exact lRess) rfl ?_; refine Qk ineq rfl rfl rfl rfl ?_; refine QZ rfl rfl rfl rfl ?_; refine Qq rfl rfl rfl ?_)
      refine Q5 51 rfl (fun h10 => ?_) (fun h10 => ?_)
      · (refine QV rfl rfl rfl (by with_reducible first | exact fS0 | exact fS1 | exact fS2 | exact fS3 | exact fS4 | exact fS5 | exact fS6 | exact fS7 | exact fS8 | exact fS9 | exact fS10 | exact fS11 | exact fN0 | exact fN1 | exact fN2 | exact fN3 | exact fN4 | exact fN5) rfl ?_; refine QJ rfl rfl rfl rfl rfl (by with_reducible first | exact lInt | exact Q9 | exact Q6 | exact lRess) rfl ?_; refine Qk ineq rfl rfl rfl rfl ?_; refine QZ rfl rfl rfl rfl ?_; refine Qv rfl rfl rfl ?_; refine Qj (hK _ _ ?_); clear hK K)
        exact Qt hN (decide (r.pr ≠ 17)) (decide_eq_decide.2 ⟨fun h => ⟨h9, h10, h⟩, fun h => h.2.2⟩) (by exact Qu rfl ⟨rfl, rfl, rfl, trivial⟩)
      · (refine Qy rfl rfl rfl ?_; refine Qy rfl rfl rfl ?_; refine Qy rfl rfl rfl ?_; refine QK rfl rfl rfl rfl ?_; refine Qv rfl rfl rfl ?_; refine Qj (hK _ _ ?_); clear hK K)
        exact Qt hN false (decide_eq_false (fun h => h10 h.2.1)).symm (by exact Qu rfl ⟨rfl, rfl, rfl, trivial⟩)
    · (refine Qy rfl rfl rfl ?_; refine Qy rfl rfl rfl ?_; refine Qy rfl rfl rfl ?_; refine QK rfl rfl rfl rfl ?_; refine Qq rfl rfl rfl ?_; refine Qy rfl rfl rfl ?_; refine Qy rfl rfl rfl ?_; refine Qy rfl rfl rfl ?_; refine QK rfl rfl rfl rfl ?_; refine Qv rfl rfl rfl ?_; refine Qj (hK _ _ ?_); clear hK K)
      exact Qt hN false (decide_eq_false (fun h => h9 h.1)).symm (by exact Qu rfl ⟨rfl, rfl, rfl, trivial⟩)
  subst hb
  skip
  refine XX rfl (fun h9 => ?_) (fun h9 => ?_)
  · (refine Qw (Qx fun K hK => ?_); refine Qv rfl rfl rfl ?_; refine Qj (hK _ _ (Qz (Q0 (Q8 (QY ?_))))); clear hK K)
    refine QU [_] rfl (QQ rfl QX) (by rw [show ckE r = 16 from (if_neg n1).trans (if_pos (of_decide_eq_true h9))]; rfl) rfl
  have n2 : ¬ P2 r := of_decide_eq_false h9
  have hbx : rsCs r = [intC r.va, intC r.ru, intC r.nu, intC r.tm, adrC r.dst.val, intC r.pr, intC r.fl, intC r.tt, boolC r.an, boolC r.db, intC r.bk, adrC r.fr.val, intC r.ki, intC r.co, intC r.le, intC r.id, intC r.qu] := rfl
  rw [hbx]
  clear hbx h9
  have e3 : P3 r = (r.an = false ∧ (r.db = true ∨ anI r ≠ [0, 0, 0, 0, 0, 0])) := rfl
  have e4 : P4 r = (r.an = true ∧ (r.ki < 1 ∨ 5 < r.ki ∨ r.co < 0 ∨ 255 < r.co ∨ r.le < 0 ∨ 255 < r.le ∨ r.qu < 0 ∨ 255 < r.qu ∨ r.id < 0 ∨ 65535 < r.id)) := rfl
  generalize han : r.an = an at e3 e4 ⊢
  generalize hdb : r.db = db at e3 ⊢
  cases an with
  | false =>
    cases db with
    | true =>
      (refine Qw (Qw (Qx fun K hK => ?_)); refine QV rfl rfl rfl (by with_reducible first | exact fS0 | exact fS1 | exact fS2 | exact fS3 | exact fS4 | exact fS5 | exact fS6 | exact fS7 | exact fS8 | exact fS9 | exact fS10 | exact fS11 | exact fN0 | exact fN1 | exact fN2 | exact fN3 | exact fN4 | exact fN5) rfl ?_; refine QJ rfl rfl rfl rfl rfl (by with_reducible first | exact lInt | exact Q9 | exact Q6 | exact lRess) rfl ?_; refine Qq rfl rfl rfl ?_; refine QV rfl rfl rfl (by with_reducible first | exact fS0 | exact fS1 | exact fS2 | exact fS3 | exact fS4 | exact fS5 | exact fS6 | exact fS7 | exact fS8 | exact fS9 | exact fS10 | exact fS11 | exact fN0 | exact fN1 | exact fN2 | exact fN3 | exact fN4 | exact fN5) rfl ?_; refine QJ rfl rfl rfl rfl rfl (by with_reducible first | exact lInt | exact Q9 | exact Q6 | exact lRess) rfl ?_; refine Qp rfl rfl rfl ?_; refine QZ rfl rfl rfl rfl ?_; refine Qv rfl rfl rfl ?_; refine Qj (hK _ _ (Qz (Qo rfl (Q1 (Qz (Qo rfl (Qw ?_))))))); clear hK K; refine Qx (fun K hK => ?_); refine Qv rfl rfl rfl ?_; refine Qj (hK _ _ (Qz (Q0 (Q8 (QY ?_))))); clear hK K)
      refine QU [_] rfl (QQ rfl QX) (by rw [show ckE r = 7 from (if_neg n1).trans ((if_neg n2).trans (if_pos (by rw [e3]; exact ⟨rfl, .inl rfl⟩)))]; rfl) rfl
    | false =>
      (refine Qw (Qw (Qx fun K hK => ?_)); refine QV rfl rfl rfl (by with_reducible first | exact fS0 | exact fS1 | exact fS2 | exact fS3 | exact fS4 | exact fS5 | exact fS6 | exact fS7 | exact fS8 | exact fS9 | exact fS10 | exact fS11 | exact fN0 | exact fN1 | exact fN2 | exact fN3 | exact fN4 | exact fN5) rfl ?_; refine QJ rfl rfl rfl rfl rfl (by with_reducible first | exact lInt | exact Q9 | exact Q6 | exact lRess) rfl ?_; refine Qq rfl rfl rfl ?_; refine Qy rfl rfl rfl ?_; refine Qy rfl rfl rfl ?_; refine Qy rfl rfl rfl ?_; refine QK rfl rfl rfl rfl ?_; refine Qv rfl rfl rfl ?_; refine Qj (hK _ _ (Qz (Xx rfl ?_))); clear hK K; refine Qx (fun K hK => ?_); refine QV rfl rfl rfl (by with_reducible first | exact fS0 | exact fS1 | exact fS2 | exact fS3 | exact fS4 | exact fS5 | exact fS6 | exact fS7 | exact fS8 | exact fS9 | exact fS10 | exact fS11 | exact fN0 | exact fN1 | exact fN2 | exact fN3 | exact fN4 | exact fN5) rfl ?_; refine QJ rfl rfl rfl rfl rfl (by with_reducible first | exact lInt | exact Q9 | exact Q6 | exact lRess) rfl ?_; refine Qp rfl rfl rfl ?_; refine Qq rfl rfl rfl ?_)
      refine Qa (n := 6) rfl rfl rfl rfl rfl (by with_reducible exact lAns) rfl ?_
      refine Xq rfl (by with_reducible exact bAns) rfl .nil rfl ?_
      refine Ops.neS (ks := [.u32, .i64, .i64, .i64, .i64, .i64]) (anI r) [0, 0, 0, 0, 0, 0] rfl rfl rfl rfl rfl (by with_reducible exact eAns) rfl ?_
      (refine QZ rfl rfl rfl rfl ?_; refine Qv rfl rfl rfl ?_; refine Qj (hK _ _ (Qz ?_)); clear hK K)
      refine XX rfl (fun k0 => ?_) (fun k0 => ?_)
      · (refine Qw (Qx fun K hK => ?_); refine Qv rfl rfl rfl ?_; refine Qj (hK _ _ (Qz (Q0 (Q8 (QY ?_))))); clear hK K)
        refine QU [_] rfl (QQ rfl QX) (by rw [show ckE r = 7 from (if_neg n1).trans ((if_neg n2).trans (if_pos (by rw [e3]; exact ⟨rfl, .inr (of_decide_eq_false (by simpa using k0))⟩)))]; rfl) rfl
      · have n3 : ¬ P3 r := by rw [e3]; exact fun h => h.2.elim (fun h => by cases h) (fun h => h (by simpa using k0))
        have n4 : ¬ P4 r := by rw [e4]; exact fun h => by cases h.1
        (refine Qw (Qx fun K hK => ?_); refine QV rfl rfl rfl (by with_reducible first | exact fS0 | exact fS1 | exact fS2 | exact fS3 | exact fS4 | exact fS5 | exact fS6 | exact fS7 | exact fS8 | exact fS9 | exact fS10 | exact fS11 | exact fN0 | exact fN1 | exact fN2 | exact fN3 | exact fN4 | exact fN5) rfl ?_; refine QJ rfl rfl rfl rfl rfl (by with_reducible first | exact lInt | exact Q9 | exact Q6 | exact lRess) rfl ?_; refine Qq rfl rfl rfl ?_; refine Qy rfl rfl rfl ?_; refine Qy rfl rfl rfl ?_; refine Qy rfl rfl rfl ?_; refine Qy rfl rfl rfl ?_; refine Qy rfl rfl rfl ?_; refine Qy rfl rfl rfl ?_; refine Qy rfl rfl rfl ?_; refine Qy rfl rfl rfl ?_; refine Qy rfl rfl rfl ?_; refine Qy rfl rfl rfl ?_; refine Qy rfl rfl rfl ?_; refine Qy rfl rfl rfl ?_; refine Qy rfl rfl rfl ?_; refine Qy rfl rfl rfl ?_; refine Qy rfl rfl rfl ?_; refine Qy rfl rfl rfl ?_; refine Qy rfl rfl rfl ?_; refine Qy rfl rfl rfl ?_; refine Qy rfl rfl rfl ?_; refine Qy rfl rfl rfl ?_; refine Qy rfl rfl rfl ?_; refine Qy rfl rfl rfl ?_; refine Qy rfl rfl rfl ?_; refine Qy rfl rfl rfl ?_; refine Qy rfl rfl rfl ?_; refine Qy rfl rfl rfl ?_; refine Qy rfl rfl rfl ?_; refine Qy rfl rfl rfl ?_; refine Qy rfl rfl rfl ?_; refine Qy rfl rfl rfl ?_; refine Qy rfl rfl rfl ?_; refine Qy rfl rfl rfl ?_; refine QK rfl rfl rfl rfl ?_; refine Qv rfl rfl rfl ?_; refine Qj (hK _ _ (Qz (Xx rfl (Q1 (Qz (Qw ?_)))))); clear hK K; refine Qx (fun K hK => ?_); refine Qv rfl rfl rfl ?_; refine Qj (hK _ _ (Qz (Q0 ?_))); clear hK K)
        refine QU [_] rfl (QQ rfl QX) (by rw [show ckE r = 0 from (if_neg n1).trans ((if_neg n2).trans ((if_neg n3).trans (if_neg n4)))]; rfl) rfl
  | true =>
    have n3 : ¬ P3 r := by rw [e3]; exact fun h => by cases h.1
    cases db with
    | false =>
      (refine Qw (Qw (Qx fun K hK => ?_)); refine QV rfl rfl rfl (by with_reducible first | exact fS0 | exact fS1 | exact fS2 | exact fS3 | exact fS4 | exact fS5 | exact fS6 | exact fS7 | exact fS8 | exact fS9 | exact fS10 | exact fS11 | exact fN0 | exact fN1 | exact fN2 | exact fN3 | exact fN4 | exact fN5) rfl ?_; refine QJ rfl rfl rfl rfl rfl (by with_reducible first | exact lInt | exact Q9 | exact Q6 | exact lRess) rfl ?_; refine Qq rfl rfl rfl ?_; refine Qy rfl rfl rfl ?_; refine Qy rfl rfl rfl ?_; refine Qy rfl rfl rfl ?_; refine QK rfl rfl rfl rfl ?_; refine Qv rfl rfl rfl ?_; refine Qj (hK _ _ (Qz (Xx rfl ?_))); clear hK K; refine Qx (fun K hK => ?_); refine QV rfl rfl rfl (by with_reducible first | exact fS0 | exact fS1 | exact fS2 | exact fS3 | exact fS4 | exact fS5 | exact fS6 | exact fS7 | exact fS8 | exact fS9 | exact fS10 | exact fS11 | exact fN0 | exact fN1 | exact fN2 | exact fN3 | exact fN4 | exact fN5) rfl ?_; refine QJ rfl rfl rfl rfl rfl (by with_reducible first | exact lInt | exact Q9 | exact Q6 | exact lRess) rfl ?_; refine Qp rfl rfl rfl ?_; refine Qq rfl rfl rfl ?_; refine Qy rfl rfl rfl ?_; refine Qy rfl rfl rfl ?_; refine Qy rfl rfl rfl ?_; refine QK rfl rfl rfl rfl ?_; refine Qv rfl rfl rfl ?_; refine Qj (hK _ _ (Qz (Xx rfl (Qw ?_)))); clear hK K; refine Qx (fun K hK => ?_); refine QV rfl rfl rfl (by with_reducible first | exact fS0 | exact fS1 | exact fS2 | exact fS3 | exact fS4 | exact fS5 | exact fS6 | exact fS7 | exact fS8 | exact fS9 | exact fS10 | exact fS11 | exact fN0 | exact fN1 | exact fN2 | exact fN3 | exact fN4 | exact fN5) rfl ?_; refine QJ rfl rfl rfl rfl rfl (by with_reducible first | exact lInt | exact Q9 | exact Q6 | exact lRess) rfl ?_; refine Qq rfl rfl rfl ?_; refine QV rfl rfl rfl (by with_reducible first | exact fS0 | exact fS1 | exact fS2 | exact fS3 | exact fS4 | exact fS5 | exact fS6 | exact fS7 | exact fS8 | exact fS9 | exact fS10 | exact fS11 | exact fN0 | exact fN1 | exact fN2 | exact fN3 | exact fN4 | exact fN5) rfl ?_; refine QJ rfl rfl rfl rfl rfl (by with_reducible first | exact lInt | exact Q9 | exact Q6 | exact lRess) rfl ?_; refine Qk ilss rfl rfl rfl rfl ?_; refine Qq rfl rfl rfl ?_)
      refine Q5 79 rfl (fun k1 => ?_) (fun k1 => ?_)
      · (refine Qy rfl rfl rfl ?_; refine Qy rfl rfl rfl ?_; refine Qy rfl rfl rfl ?_; refine QZ rfl rfl rfl rfl ?_; refine Qq rfl rfl rfl ?_; refine Qy rfl rfl rfl ?_; refine Qy rfl rfl rfl ?_; refine Qy rfl rfl rfl ?_; refine Qy rfl rfl rfl ?_; refine QZ rfl rfl rfl rfl ?_; refine Qq rfl rfl rfl ?_; refine Qy rfl rfl rfl ?_; refine Qy rfl rfl rfl ?_; refine Qy rfl rfl rfl ?_; refine Qy rfl rfl rfl ?_; refine QZ rfl rfl rfl rfl ?_; refine Qq rfl rfl rfl ?_; refine Qy rfl rfl rfl ?_; refine Qy rfl rfl rfl ?_; refine Qy rfl rfl rfl ?_; refine Qy rfl rfl rfl ?_; refine QZ rfl rfl rfl rfl ?_; refine Qq rfl rfl rfl ?_; refine Qy rfl rfl rfl ?_; refine Qy rfl rfl rfl ?_; refine Qy rfl rfl rfl ?_; refine Qy rfl rfl rfl ?_; refine QZ rfl rfl rfl rfl ?_; refine QZ rfl rfl rfl rfl ?_; refine Qv rfl rfl rfl ?_; refine Qj (hK _ _ (Qz (Qo rfl (Qw ?_)))); clear hK K; refine Qx (fun K hK => ?_); refine Qv rfl rfl rfl ?_; refine Qj (hK _ _ (Qz (Q0 (Q8 (QY ?_))))); clear hK K)
        refine QU [_] rfl (QQ rfl QX) (by rw [show ckE r = 1 from (if_neg n1).trans ((if_neg n2).trans ((if_neg n3).trans (if_pos (by rw [e4]; exact ⟨rfl, by omega⟩))))]; rfl) rfl
      (refine QV rfl rfl rfl (by with_reducible first | exact fS0 | exact fS1 | exact fS2 | exact fS3 | exact fS4 | exact fS5 | exact fS6 | exact fS7 | exact fS8 | exact fS9 | exact fS10 | exact fS11 | exact fN0 | exact fN1 | exact fN2 | exact fN3 | exact fN4 | exact fN5) rfl ?_; refine QJ rfl rfl rfl rfl rfl (by with_reducible first | exact lInt | exact Q9 | exact Q6 | exact lRess) rfl ?_; refine Qk igtr rfl rfl rfl rfl ?_; refine QK rfl rfl rfl rfl ?_; refine Qq rfl rfl rfl ?_)
      refine Q5 84 rfl (fun k2 => ?_) (fun k2 => ?_)
      · (refine Qy rfl rfl rfl ?_; refine Qy rfl rfl rfl ?_; refine Qy rfl rfl rfl ?_; refine Qy rfl rfl rfl ?_; refine QZ rfl rfl rfl rfl ?_; refine Qq rfl rfl rfl ?_; refine Qy rfl rfl rfl ?_; refine Qy rfl rfl rfl ?_; refine Qy rfl rfl rfl ?_; refine Qy rfl rfl rfl ?_; refine QZ rfl rfl rfl rfl ?_; refine Qq rfl rfl rfl ?_; refine Qy rfl rfl rfl ?_; refine Qy rfl rfl rfl ?_; refine Qy rfl rfl rfl ?_; refine Qy rfl rfl rfl ?_; refine QZ rfl rfl rfl rfl ?_; refine Qq rfl rfl rfl ?_; refine Qy rfl rfl rfl ?_; refine Qy rfl rfl rfl ?_; refine Qy rfl rfl rfl ?_; refine Qy rfl rfl rfl ?_; refine QZ rfl rfl rfl rfl ?_; refine QZ rfl rfl rfl rfl ?_; refine Qv rfl rfl rfl ?_; refine Qj (hK _ _ (Qz (Qo rfl (Qw ?_)))); clear hK K; refine Qx (fun K hK => ?_); refine Qv rfl rfl rfl ?_; refine Qj (hK _ _ (Qz (Q0 (Q8 (QY ?_))))); clear hK K)
        refine QU [_] rfl (QQ rfl QX) (by rw [show ckE r = 1 from (if_neg n1).trans ((if_neg n2).trans ((if_neg n3).trans (if_pos (by rw [e4]; exact ⟨rfl, by omega⟩))))]; rfl) rfl
      (refine QV rfl rfl rfl (by with_reducible first | exact fS0 | exact fS1 | exact fS2 | exact fS3 | exact fS4 | exact fS5 | exact fS6 | exact fS7 | exact fS8 | exact fS9 | exact fS10 | exact fS11 | exact fN0 | exact fN1 | exact fN2 | exact fN3 | exact fN4 | exact fN5) rfl ?_; refine QJ rfl rfl rfl rfl rfl (by with_reducible first | exact lInt | exact Q9 | exact Q6 | exact lRess) rfl ?_)
      refine QW Z1 (ZX r.co 255) rfl rfl rfl rfl ?_
      refine Q5 87 rfl (fun k3 => ?_) (fun k3 => ?_)
      rotate_left
      · (refine Qp rfl rfl rfl ?_; refine QK rfl rfl rfl rfl ?_; refine Qq rfl rfl rfl ?_; refine Qy rfl rfl rfl ?_; refine Qy rfl rfl rfl ?_; refine Qy rfl rfl rfl ?_; refine Qy rfl rfl rfl ?_; refine QZ rfl rfl rfl rfl ?_; refine Qq rfl rfl rfl ?_; refine Qy rfl rfl rfl ?_; refine Qy rfl rfl rfl ?_; refine Qy rfl rfl rfl ?_; refine Qy rfl rfl rfl ?_; refine QZ rfl rfl rfl rfl ?_; refine Qq rfl rfl rfl ?_; refine Qy rfl rfl rfl ?_; refine Qy rfl rfl rfl ?_; refine Qy rfl rfl rfl ?_; refine Qy rfl rfl rfl ?_; refine QZ rfl rfl rfl rfl ?_; refine QZ rfl rfl rfl rfl ?_; refine Qv rfl rfl rfl ?_; refine Qj (hK _ _ (Qz (Qo rfl (Qw ?_)))); clear hK K; refine Qx (fun K hK => ?_); refine Qv rfl rfl rfl ?_; refine Qj (hK _ _ (Qz (Q0 (Q8 (QY ?_))))); clear hK K)
        refine QU [_] rfl (QQ rfl QX) (by rw [show ckE r = 1 from (if_neg n1).trans ((if_neg n2).trans ((if_neg n3).trans (if_pos (by rw [e4]; exact ⟨rfl, by omega⟩))))]; rfl) rfl
      (refine Qp rfl rfl rfl ?_; refine QK rfl rfl rfl rfl ?_; refine Qq rfl rfl rfl ?_; refine QV rfl rfl rfl (by with_reducible first | exact fS0 | exact fS1 | exact fS2 | exact fS3 | exact fS4 | exact fS5 | exact fS6 | exact fS7 | exact fS8 | exact fS9 | exact fS10 | exact fS11 | exact fN0 | exact fN1 | exact fN2 | exact fN3 | exact fN4 | exact fN5) rfl ?_; refine QJ rfl rfl rfl rfl rfl (by with_reducible first | exact lInt | exact Q9 | exact Q6 | exact lRess) rfl ?_)
      refine QW Z1 (ZX r.le 255) rfl rfl rfl rfl ?_
      refine Q5 93 rfl (fun k4 => ?_) (fun k4 => ?_)
      rotate_left
      · (refine Qp rfl rfl rfl ?_; refine QK rfl rfl rfl rfl ?_; refine Qq rfl rfl rfl ?_; refine Qy rfl rfl rfl ?_; refine Qy rfl rfl rfl ?_; refine Qy rfl rfl rfl ?_; refine Qy rfl rfl rfl ?_; refine QZ rfl rfl rfl rfl ?_; refine Qq rfl rfl rfl ?_; refine Qy rfl rfl rfl ?_; refine Qy rfl rfl rfl ?_; refine Qy rfl rfl rfl ?_; refine Qy rfl rfl rfl ?_; refine QZ rfl rfl rfl rfl ?_; refine QZ rfl rfl rfl rfl ?_; refine Qv rfl rfl rfl ?_; refine Qj (hK _ _ (Qz (Qo rfl (Qw ?_)))); clear hK K; refine Qx (fun K hK => ?_); refine Qv rfl rfl rfl ?_; refine Qj (hK _ _ (Qz (Q0 (Q8 (QY ?_))))); clear hK K)
        refine QU [_] rfl (QQ rfl QX) (by rw [show ckE r = 1 from (if_neg n1).trans ((if_neg n2).trans ((if_neg n3).trans (if_pos (by rw [e4]; exact ⟨rfl, by omega⟩))))]; rfl) rfl
      (refine Qp rfl rfl rfl ?_; refine QK rfl rfl rfl rfl ?_; refine Qq rfl rfl rfl ?_; refine QV rfl rfl rfl (by with_reducible first | exact fS0 | exact fS1 | exact fS2 | exact fS3 | exact fS4 | exact fS5 | exact fS6 | exact fS7 | exact fS8 | exact fS9 | exact fS10 | exact fS11 | exact fN0 | exact fN1 | exact fN2 | exact fN3 | exact fN4 | exact fN5) rfl ?_; refine QJ rfl rfl rfl rfl rfl (by with_reducible first | exact lInt | exact Q9 | exact Q6 | exact lRess) rfl ?_)
      refine QW Z1 (ZX r.qu 255) rfl rfl rfl rfl ?_
      refine Q5 99 rfl (fun k5 => ?_) (fun k5 => ?_)
      rotate_left
      · (refine Qp rfl rfl rfl ?_; refine QK rfl rfl rfl rfl ?_; refine Qq rfl rfl rfl ?_; refine Qy rfl rfl rfl ?_; refine Qy rfl rfl rfl ?_; refine Qy rfl rfl rfl ?_; refine Qy rfl rfl rfl ?_; refine QZ rfl rfl rfl rfl ?_; refine QZ rfl rfl rfl rfl ?_; refine Qv rfl rfl rfl ?_; refine Qj (hK _ _ (Qz (Qo rfl (Qw ?_)))); clear hK K; refine Qx (fun K hK => ?_); refine Qv rfl rfl rfl ?_; refine Qj (hK _ _ (Qz (Q0 (Q8 (QY ?_))))); clear hK K)
        refine QU [_] rfl (QQ rfl QX) (by rw [show ckE r = 1 from (if_neg n1).trans ((if_neg n2).trans ((if_neg n3).trans (if_pos (by rw [e4]; exact ⟨rfl, by omega⟩))))]; rfl) rfl
      (refine Qp rfl rfl rfl ?_; refine QK rfl rfl rfl rfl ?_; refine Qq rfl rfl rfl ?_; refine QV rfl rfl rfl (by with_reducible first | exact fS0 | exact fS1 | exact fS2 | exact fS3 | exact fS4 | exact fS5 | exact fS6 | exact fS7 | exact fS8 | exact fS9 | exact fS10 | exact fS11 | exact fN0 | exact fN1 | exact fN2 | exact fN3 | exact fN4 | exact fN5) rfl ?_; refine QJ rfl rfl rfl rfl rfl (by with_reducible first | exact lInt | exact Q9 | exact Q6 | exact lRess) rfl ?_)
      refine QW Z1 (ZX r.id 65535) rfl rfl rfl rfl ?_
      refine Q5 105 rfl (fun k6 => ?_) (fun k6 => ?_)
      rotate_left
      · (refine Qp rfl rfl rfl ?_; refine QK rfl rfl rfl rfl ?_; refine QZ rfl rfl rfl rfl ?_; refine Qv rfl rfl rfl ?_; refine Qj (hK _ _ (Qz (Qo rfl (Qw ?_)))); clear hK K; refine Qx (fun K hK => ?_); refine Qv rfl rfl rfl ?_; refine Qj (hK _ _ (Qz (Q0 (Q8 (QY ?_))))); clear hK K)
        refine QU [_] rfl (QQ rfl QX) (by rw [show ckE r = 1 from (if_neg n1).trans ((if_neg n2).trans ((if_neg n3).trans (if_pos (by rw [e4]; exact ⟨rfl, by omega⟩))))]; rfl) rfl
      have n4 : ¬ P4 r := by rw [e4]; exact fun h => by have := h.2; omega
      (refine Qp rfl rfl rfl ?_; refine QK rfl rfl rfl rfl ?_; refine QZ rfl rfl rfl rfl ?_; refine Qv rfl rfl rfl ?_; refine Qj (hK _ _ (Qz (Xx rfl (Q1 (Qz (Qw ?_)))))); clear hK K; refine Qx (fun K hK => ?_); refine Qv rfl rfl rfl ?_; refine Qj (hK _ _ (Qz (Q0 ?_))); clear hK K)
      refine QU [_] rfl (QQ rfl QX) (by rw [show ckE r = 0 from (if_neg n1).trans ((if_neg n2).trans ((if_neg n3).trans (if_neg n4)))]; rfl) rfl
    | true =>
      (refine Qw (Qw (Qx fun K hK => ?_)); refine QV rfl rfl rfl (by with_reducible first | exact fS0 | exact fS1 | exact fS2 | exact fS3 | exact fS4 | exact fS5 | exact fS6 | exact fS7 | exact fS8 | exact fS9 | exact fS10 | exact fS11 | exact fN0 | exact fN1 | exact fN2 | exact fN3 | exact fN4 | exact fN5) rfl ?_; refine QJ rfl rfl rfl rfl rfl (by with_reducible first | exact lInt | exact Q9 | exact Q6 | exact lRess) rfl ?_; refine Qq rfl rfl rfl ?_; refine QV rfl rfl rfl (by with_reducible first | exact fS0 | exact fS1 | exact fS2 | exact fS3 | exact fS4 | exact fS5 | exact fS6 | exact fS7 | exact fS8 | exact fS9 | exact fS10 | exact fS11 | exact fN0 | exact fN1 | exact fN2 | exact fN3 | exact fN4 | exact fN5) rfl ?_; refine QJ rfl rfl rfl rfl rfl (by with_reducible first | exact lInt | exact Q9 | exact Q6 | exact lRess) rfl ?_; refine Qp rfl rfl rfl ?_; refine QZ rfl rfl rfl rfl ?_; refine Qv rfl rfl rfl ?_; refine Qj (hK _ _ (Qz (Xx rfl ?_))); clear hK K; refine Qx (fun K hK => ?_); refine QV rfl rfl rfl (by with_reducible first | exact fS0 | exact fS1 | exact fS2 | exact fS3 | exact fS4 | exact fS5 | exact fS6 | exact fS7 | exact fS8 | exact fS9 | exact fS10 | exact fS11 | exact fN0 | exact fN1 | exact fN2 | exact fN3 | exact fN4 | exact fN5) rfl ?_; refine QJ rfl rfl rfl rfl rfl (by with_reducible first | exact lInt | exact Q9 | exact Q6 | exact lRess) rfl ?_; refine Qp rfl rfl rfl ?_; refine Qq rfl rfl rfl ?_; refine Qy rfl rfl rfl ?_; refine Qy rfl rfl rfl ?_; refine Qy rfl rfl rfl ?_; refine QK rfl rfl rfl rfl ?_; refine Qv rfl rfl rfl ?_; refine Qj (hK _ _ (Qz (Xx rfl (Qw ?_)))); clear hK K; refine Qx (fun K hK => ?_); refine QV rfl rfl rfl (by with_reducible first | exact fS0 | exact fS1 | exact fS2 | exact fS3 | exact fS4 | exact fS5 | exact fS6 | exact fS7 | exact fS8 | exact fS9 | exact fS10 | exact fS11 | exact fN0 | exact fN1 | exact fN2 | exact fN3 | exact fN4 | exact fN5) rfl ?_; refine QJ rfl rfl rfl rfl rfl (by with_reducible first | exact lInt | exact Q9 | exact Q6 | exact lRess) rfl ?_; refine Qq rfl rfl rfl ?_; refine QV rfl rfl rfl (by with_reducible first | exact fS0 | exact fS1 | exact fS2 | exact fS3 | exact fS4 | exact fS5 | exact fS6 | exact fS7 | exact fS8 | exact fS9 | exact fS10 | exact fS11 | exact fN0 | exact fN1 | exact fN2 | exact fN3 | exact fN4 | exact fN5) rfl ?_; refine QJ rfl rfl rfl rfl rfl (by with_reducible first | exact lInt | exact Q9 | exact Q6 | exact lRess) rfl ?_; refine Qk ilss rfl rfl rfl rfl ?_; refine Qq rfl rfl rfl ?_)
      refine Q5 79 rfl (fun k1 => ?_) (fun k1 => ?_)
      · (refine Qy rfl rfl rfl ?_; refine Qy rfl rfl rfl ?_; refine Qy rfl rfl rfl ?_; refine QZ rfl rfl rfl rfl ?_; refine Qq rfl rfl rfl ?_; refine Qy rfl rfl rfl ?_; refine Qy rfl rfl rfl ?_; refine Qy rfl rfl rfl ?_; refine Qy rfl rfl rfl ?_; refine QZ rfl rfl rfl rfl ?_; refine Qq rfl rfl rfl ?_; refine Qy rfl rfl rfl ?_; refine Qy rfl rfl rfl ?_; refine Qy rfl rfl rfl ?_; refine Qy rfl rfl rfl ?_; refine QZ rfl rfl rfl rfl ?_; refine Qq rfl rfl rfl ?_; refine Qy rfl rfl rfl ?_; refine Qy rfl rfl rfl ?_; refine Qy rfl rfl rfl ?_; refine Qy rfl rfl rfl ?_; refine QZ rfl rfl rfl rfl ?_; refine Qq rfl rfl rfl ?_; refine Qy rfl rfl rfl ?_; refine Qy rfl rfl rfl ?_; refine Qy rfl rfl rfl ?_; refine Qy rfl rfl rfl ?_; refine QZ rfl rfl rfl rfl ?_; refine QZ rfl rfl rfl rfl ?_; refine Qv rfl rfl rfl ?_; refine Qj (hK _ _ (Qz (Qo rfl (Qw ?_)))); clear hK K; refine Qx (fun K hK => ?_); refine Qv rfl rfl rfl ?_; refine Qj (hK _ _ (Qz (Q0 (Q8 (QY ?_))))); clear hK K)
        refine QU [_] rfl (QQ rfl QX) (by rw [show ckE r = 1 from (if_neg n1).trans ((if_neg n2).trans ((if_neg n3).trans (if_pos (by rw [e4]; exact ⟨rfl, by omega⟩))))]; rfl) rfl
      (refine QV rfl rfl rfl (by with_reducible first | exact fS0 | exact fS1 | exact fS2 | exact fS3 | exact fS4 | exact fS5 | exact fS6 | exact fS7 | exact fS8 | exact fS9 | exact fS10 | exact fS11 | exact fN0 | exact fN1 | exact fN2 | exact fN3 | exact fN4 | exact fN5) rfl ?_; refine QJ rfl rfl rfl rfl rfl (by with_reducible first | exact lInt | exact Q9 | exact Q6 | exact lRess) rfl ?_; refine Qk igtr rfl rfl rfl rfl ?_; refine QK rfl rfl rfl rfl ?_; refine Qq rfl rfl rfl ?_)
      refine Q5 84 rfl (fun k2 => ?_) (fun k2 => ?_)
      · (refine Qy rfl rfl rfl ?_; refine Qy rfl rfl rfl ?_; refine Qy rfl rfl rfl ?_; refine Qy rfl rfl rfl ?_; refine QZ rfl rfl rfl rfl ?_; refine Qq rfl rfl rfl ?_; refine Qy rfl rfl rfl ?_; refine Qy rfl rfl rfl ?_; refine Qy rfl rfl rfl ?_; refine Qy rfl rfl rfl ?_; refine QZ rfl rfl rfl rfl ?_; refine Qq rfl rfl rfl ?_; refine Qy rfl rfl rfl ?_; refine Qy rfl rfl rfl ?_; refine Qy rfl rfl rfl ?_; refine Qy rfl rfl rfl ?_; refine QZ rfl rfl rfl rfl ?_; refine Qq rfl rfl rfl ?_; refine Qy rfl rfl rfl ?_; refine Qy rfl rfl rfl ?_; refine Qy rfl rfl rfl ?_; refine Qy rfl rfl rfl ?_; refine QZ rfl rfl rfl rfl ?_; refine QZ rfl rfl rfl rfl ?_; refine Qv rfl rfl rfl ?_; refine Qj (hK _ _ (Qz (Qo rfl (Qw ?_)))); clear hK K; refine Qx (fun K hK => ?_); refine Qv rfl rfl rfl ?_; refine Qj (hK _ _ (Qz (Q0 (Q8 (QY ?_))))); clear hK K)
        refine QU [_] rfl (QQ rfl QX) (by rw [show ckE r = 1 from (if_neg n1).trans ((if_neg n2).trans ((if_neg n3).trans (if_pos (by rw [e4]; exact ⟨rfl, by omega⟩))))]; rfl) rfl
      (refine QV rfl rfl rfl (by with_reducible first | exact fS0 | exact fS1 | exact fS2 | exact fS3 | exact fS4 | exact fS5 | exact fS6 | exact fS7 | exact fS8 | exact fS9 | exact fS10 | exact fS11 | exact fN0 | exact fN1 | exact fN2 | exact fN3 | exact fN4 | exact fN5) rfl ?_; refine QJ rfl rfl rfl rfl rfl (by with_reducible first | exact lInt | exact Q9 | exact Q6 | exact lRess) rfl ?_)
      refine QW Z1 (ZX r.co 255) rfl rfl rfl rfl ?_
      refine Q5 87 rfl (fun k3 => ?_) (fun k3 => ?_)
      rotate_left
      · (refine Qp rfl rfl rfl ?_; refine QK rfl rfl rfl rfl ?_; refine Qq rfl rfl rfl ?_; refine Qy rfl rfl rfl ?_; refine Qy rfl rfl rfl ?_; refine Qy rfl rfl rfl ?_; refine Qy rfl rfl rfl ?_; refine QZ rfl rfl rfl rfl ?_; refine Qq rfl rfl rfl ?_; refine Qy rfl rfl rfl ?_; refine Qy rfl rfl rfl ?_; refine Qy rfl rfl rfl ?_; refine Qy rfl rfl rfl ?_; refine QZ rfl rfl rfl rfl ?_; refine Qq rfl rfl rfl ?_; refine Qy rfl rfl rfl ?_; refine Qy rfl rfl rfl ?_; refine Qy rfl rfl rfl ?_; refine Qy rfl rfl rfl ?_; refine QZ rfl rfl rfl rfl ?_; refine QZ rfl rfl rfl rfl ?_; refine Qv rfl rfl rfl ?_; refine Qj (hK _ _ (Qz (Qo rfl (Qw ?_)))); clear hK K; refine Qx (fun K hK => ?_); refine Qv rfl rfl rfl ?_; refine Qj (hK _ _ (Qz (Q0 (Q8 (QY ?_))))); clear hK K)
        refine QU [_] rfl (QQ rfl QX) (by rw [show ckE r = 1 from (if_neg n1).trans ((if_neg n2).trans ((if_neg n3).trans (if_pos (by rw [e4]; exact ⟨rfl, by omega⟩))))]; rfl) rfl
      (refine Qp rfl rfl rfl ?_; refine QK rfl rfl rfl rfl ?_; refine Qq rfl rfl rfl ?_; refine QV rfl rfl rfl (by with_reducible first | exact fS0 | exact fS1 | exact fS2 | exact fS3 | exact fS4 | exact fS5 | exact fS6 | exact fS7 | exact fS8 | exact fS9 | exact fS10 | exact fS11 | exact fN0 | exact fN1 | exact fN2 | exact fN3 | exact fN4 | exact fN5) rfl ?_; refine QJ rfl rfl rfl rfl rfl (by with_reducible first | exact lInt | exact Q9 | exact Q6 | exact lRess) rfl ?_)
      refine QW Z1 (ZX r.le 255) rfl rfl rfl rfl ?_
      refine Q5 93 rfl (fun k4 => ?_) (fun k4 => ?_)
      rotate_left
      · (refine Qp rfl rfl rfl ?_; refine QK rfl rfl rfl rfl ?_; refine Qq rfl rfl rfl ?_; refine Qy rfl rfl rfl ?_; refine Qy rfl rfl rfl ?_; refine Qy rfl rfl rfl ?_; refine Qy rfl rfl rfl ?_; refine QZ rfl rfl rfl rfl ?_; refine Qq rfl rfl rfl ?_; refine Qy rfl rfl rfl ?_; refine Qy rfl rfl rfl ?_; refine Qy rfl rfl rfl ?_; refine Qy rfl rfl rfl ?_; refine QZ rfl rfl rfl rfl ?_; refine QZ rfl rfl rfl rfl ?_; refine Qv rfl rfl rfl ?_; refine Qj (hK _ _ (Qz (Qo rfl (Qw ?_)))); clear hK K; refine Qx (fun K hK => ?_); refine Qv rfl rfl rfl ?_; refine Qj (hK _ _ (Qz (Q0 (Q8 (QY ?_))))); clear hK K)
        refine QU [_] rfl (QQ rfl QX) (by rw [show ckE r = 1 from (if_neg n1).trans ((if_neg n2).trans ((if_neg n3).trans (if_pos (by rw [e4]; exact ⟨rfl, by omega⟩))))]; rfl) rfl
      (refine Qp rfl rfl rfl ?_; refine QK rfl rfl rfl rfl ?_; refine Qq rfl rfl rfl ?_; refine QV rfl rfl rfl (by with_reducible first | exact fS0 | exact fS1 | exact fS2 | exact fS3 | exact fS4 | exact fS5 | exact fS6 | exact fS7 | exact fS8 | exact fS9 | exact fS10 | exact fS11 | exact fN0 | exact fN1 | exact fN2 | exact fN3 | exact fN4 | exact fN5) rfl ?_; refine QJ rfl rfl rfl rfl rfl (by with_reducible first | exact lInt | exact Q9 | exact Q6 | exact lRess) rfl ?_)
      refine QW Z1 (ZX r.qu 255) rfl rfl rfl rfl ?_
      refine Q5 99 rfl (fun k5 => ?_) (fun k5 => ?_)
      rotate_left
      · (refine Qp rfl rfl rfl ?_; refine QK rfl rfl rfl rfl ?_; refine Qq rfl rfl rfl ?_; refine Qy rfl rfl rfl ?_; refine Qy rfl rfl rfl ?_; refine Qy rfl rfl rfl ?_; refine Qy rfl rfl rfl ?_; refine QZ rfl rfl rfl rfl ?_; refine QZ rfl rfl rfl rfl ?_; refine Qv rfl rfl rfl ?_; refine Qj (hK _ _ (Qz (Qo rfl (Qw ?_)))); clear hK K; refine Qx (fun K hK => ?_); refine Qv rfl rfl rfl ?_; refine Qj (hK _ _ (Qz (Q0 (Q8 (QY ?_))))); clear hK K)
        refine QU [_] rfl (QQ rfl QX) (by rw [show ckE r = 1 from (if_neg n1).trans ((if_neg n2).trans ((if_neg n3).trans (if_pos (by rw [e4]; exact ⟨rfl, by omega⟩))))]; rfl) rfl
      (refine Qp rfl rfl rfl ?_; refine QK rfl rfl rfl rfl ?_; refine Qq rfl rfl rfl ?_; refine QV rfl rfl rfl (by with_reducible first | exact fS0 | exact fS1 | exact fS2 | exact fS3 | exact fS4 | exact fS5 | exact fS6 | exact fS7 | exact fS8 | exact fS9 | exact fS10 | exact fS11 | exact fN0 | exact fN1 | exact fN2 | exact fN3 | exact fN4 | exact fN5) rfl ?_; refine QJ rfl rfl rfl rfl rfl (by with_reducible first | exact lInt | exact Q9 | exact Q6 | exact lRess) rfl ?_)
      refine QW Z1 (ZX r.id 65535) rfl rfl rfl rfl ?_
      refine Q5 105 rfl (fun k6 => ?_) (fun k6 => ?_)
      rotate_left
      · (refine Qp rfl rfl rfl ?_; refine QK rfl rfl rfl rfl ?_; refine QZ rfl rfl rfl rfl ?_; refine Qv rfl rfl rfl ?_; refine Qj (hK _ _ (Qz (Qo rfl (Qw ?_)))); clear hK K; refine Qx (fun K hK => ?_); refine Qv rfl rfl rfl ?_; refine Qj (hK _ _ (Qz (Q0 (Q8 (QY ?_))))); clear hK K)
        refine QU [_] rfl (QQ rfl QX) (by rw [show ckE r = 1 from (if_neg n1).trans ((if_neg n2).trans ((if_neg n3).trans (if_pos (by rw [e4]; exact ⟨rfl, by omega⟩))))]; rfl) rfl
      have n4 : ¬ P4 r := by rw [e4]; exact fun h => by have := h.2; omega
      (refine Qp rfl rfl rfl ?_; refine QK rfl rfl rfl rfl ?_; refine QZ rfl rfl rfl rfl ?_; refine Qv rfl rfl rfl ?_; refine Qj (hK _ _ (Qz (Xx rfl (Q1 (Qz (Qw ?_)))))); clear hK K; refine Qx (fun K hK => ?_); refine Qv rfl rfl rfl ?_; refine Qj (hK _ _ (Qz (Q0 ?_))); clear hK K)
      refine QU [_] rfl (QQ rfl QX) (by rw [show ckE r = 0 from (if_neg n1).trans ((if_neg n2).trans ((if_neg n3).trans (if_neg n4)))]; rfl) rfl
set_option maxHeartbeats 4000000 in
theorem rCheckR_ok (r : Rs) : Ok Tryz.prog 119 [rsC r] (intC (ckE r)) := by
  refine Ok.enter Tryz.func119 rfl _ Tryz.ntmps119 rfl ?_
  intro S w
  (refine Qw (Qx fun K hK => ?_); refine Xk 0 rfl rfl rfl rfl rfl rfl rfl ?_; refine Qv rfl rfl rfl ?_; refine Qj (hK _ _ (Qz (Qw (Qw ?_)))); clear hK K; refine Qx (fun K hK => ?_); refine QV rfl rfl rfl (by with_reducible first | exact fS0 | exact fS1 | exact fS2 | exact fS3 | exact fS4 | exact fS5 | exact fS6 | exact fS7 | exact fS8 | exact fS9 | exact fS10 | exact fS11 | exact fN0 | exact fN1 | exact fN2 | exact fN3 | exact fN4 | exact fN5) rfl ?_; refine QJ rfl rfl rfl rfl rfl (by with_reducible first | exact lInt | exact Q9 | exact Q6 | exact lRess) rfl ?_; refine QV rfl rfl rfl (by with_reducible first | exact fS0 | exact fS1 | exact fS2 | exact fS3 | exact fS4 | exact fS5 | exact fS6 | exact fS7 | exact fS8 | exact fS9 | exact fS10 | exact fS11 | exact fN0 | exact fN1 | exact fN2 | exact fN3 | exact fN4 | exact fN5) rfl ?_; refine QJ rfl rfl rfl rfl rfl (by with_reducible first | exact lInt | exact Q9 | exact Q6 | exact lRess) rfl ?_)
  refine QW gorident (rident_ok r.va r.ru) rfl rfl rfl rfl ?_
  refine Q5 8 rfl (fun h1 => ?_) (fun h1 => ?_)
  rotate_left
  · (refine Qp rfl rfl rfl ?_; refine Qq rfl rfl rfl ?_; refine Qy rfl rfl rfl ?_; refine Qy rfl rfl rfl ?_; refine Qy rfl rfl rfl ?_; refine QZ rfl rfl rfl rfl ?_; refine Qq rfl rfl rfl ?_; refine Qy rfl rfl rfl ?_; refine Qy rfl rfl rfl ?_; refine Qy rfl rfl rfl ?_; refine QZ rfl rfl rfl rfl ?_; refine Qq rfl rfl rfl ?_; refine Qy rfl rfl rfl ?_; refine Qy rfl rfl rfl ?_; refine Qy rfl rfl rfl ?_; refine QZ rfl rfl rfl rfl ?_; refine Qq rfl rfl rfl ?_; refine Qy rfl rfl rfl ?_; refine Qy rfl rfl rfl ?_; refine Qy rfl rfl rfl ?_; refine QZ rfl rfl rfl rfl ?_; refine Qq rfl rfl rfl ?_; refine Qy rfl rfl rfl ?_; refine Qy rfl rfl rfl ?_; refine Qy rfl rfl rfl ?_; refine Qy rfl rfl rfl ?_; refine Qy rfl rfl rfl ?_; refine QZ rfl rfl rfl rfl ?_; refine Qq rfl rfl rfl ?_; refine Qy rfl rfl rfl ?_; refine Qy rfl rfl rfl ?_; refine Qy rfl rfl rfl ?_; refine QZ rfl rfl rfl rfl ?_; refine Qq rfl rfl rfl ?_; refine Qy rfl rfl rfl ?_; refine Qy rfl rfl rfl ?_; refine Qy rfl rfl rfl ?_; refine QZ rfl rfl rfl rfl ?_; refine Qq rfl rfl rfl ?_; refine Qy rfl rfl rfl ?_; refine Qy rfl rfl rfl ?_; refine Qy rfl rfl rfl ?_; refine QZ rfl rfl rfl rfl ?_; refine Qq rfl rfl rfl ?_; refine Qy rfl rfl rfl ?_; refine Qy rfl rfl rfl ?_; refine Qy rfl rfl rfl ?_; refine QZ rfl rfl rfl rfl ?_; refine Qq rfl rfl rfl ?_; refine Qy rfl rfl rfl ?_; refine Qy rfl rfl rfl ?_; refine Qy rfl rfl rfl ?_; refine QZ rfl rfl rfl rfl ?_; refine Qj (hK _ _ (Qz (Qo rfl (Qw ?_)))); clear hK K; refine Qx (fun K hK => ?_); refine Qv rfl rfl rfl ?_; refine Qj (hK _ _ (Qz (Q0 (QY ?_)))); clear hK K)
    refine QU [_] rfl (QQ rfl QX) (by rw [show ckE r = 1 from if_pos (by unfold P1; omega)]; rfl) rfl
  (refine Qp rfl rfl rfl ?_; refine Qq rfl rfl rfl ?_; refine QV rfl rfl rfl (by with_reducible first | exact fS0 | exact fS1 | exact fS2 | exact fS3 | exact fS4 | exact fS5 | exact fS6 | exact fS7 | exact fS8 | exact fS9 | exact fS10 | exact fS11 | exact fN0 | exact fN1 | exact fN2 | exact fN3 | exact fN4 | exact fN5) rfl ?_; refine QJ rfl rfl rfl rfl rfl (by with_reducible first | exact lInt | exact Q9 | exact Q6 | exact lRess) rfl ?_; refine Qk ilss rfl rfl rfl rfl ?_; refine QK rfl rfl rfl rfl ?_; refine Qq rfl rfl rfl ?_)
  refine Q5 15 rfl (fun g0 => ?_) (fun g0 => ?_)
  · (refine Qy rfl rfl rfl ?_; refine Qy rfl rfl rfl ?_; refine Qy rfl rfl rfl ?_; refine QZ rfl rfl rfl rfl ?_; refine Qq rfl rfl rfl ?_; refine Qy rfl rfl rfl ?_; refine Qy rfl rfl rfl ?_; refine Qy rfl rfl rfl ?_; refine QZ rfl rfl rfl rfl ?_; refine Qq rfl rfl rfl ?_; refine Qy rfl rfl rfl ?_; refine Qy rfl rfl rfl ?_; refine Qy rfl rfl rfl ?_; refine QZ rfl rfl rfl rfl ?_; refine Qq rfl rfl rfl ?_; refine Qy rfl rfl rfl ?_; refine Qy rfl rfl rfl ?_; refine Qy rfl rfl rfl ?_; refine Qy rfl rfl rfl ?_; refine Qy rfl rfl rfl ?_; refine QZ rfl rfl rfl rfl ?_; refine Qq rfl rfl rfl ?_; refine Qy rfl rfl rfl ?_; refine Qy rfl rfl rfl ?_; refine Qy rfl rfl rfl ?_; refine QZ rfl rfl rfl rfl ?_; refine Qq rfl rfl rfl ?_; refine Qy rfl rfl rfl ?_; refine Qy rfl rfl rfl ?_; refine Qy rfl rfl rfl ?_; refine QZ rfl rfl rfl rfl ?_; refine Qq rfl rfl rfl ?_; refine Qy rfl rfl rfl ?_; refine Qy rfl rfl rfl ?_; refine Qy rfl rfl rfl ?_; refine QZ rfl rfl rfl rfl ?_; refine Qq rfl rfl rfl ?_; refine Qy rfl rfl rfl ?_; refine Qy rfl rfl rfl ?_; refine Qy rfl rfl rfl ?_; refine QZ rfl rfl rfl rfl ?_; refine Qq rfl rfl rfl ?_; refine Qy rfl rfl rfl ?_; refine Qy rfl rfl rfl ?_; refine Qy rfl rfl rfl ?_; refine QZ rfl rfl rfl rfl ?_; refine Qj (hK _ _ (Qz (Qo rfl (Qw ?_)))); clear hK K; refine Qx (fun K hK => ?_); refine Qv rfl rfl rfl ?_; refine Qj (hK _ _ (Qz (Q0 (QY ?_)))); clear hK K)
    refine QU [_] rfl (QQ rfl QX) (by rw [show ckE r = 1 from if_pos (by unfold P1; omega)]; rfl) rfl
  (refine QV rfl rfl rfl (by with_reducible first | exact fS0 | exact fS1 | exact fS2 | exact fS3 | exact fS4 | exact fS5 | exact fS6 | exact fS7 | exact fS8 | exact fS9 | exact fS10 | exact fS11 | exact fN0 | exact fN1 | exact fN2 | exact fN3 | exact fN4 | exact fN5) rfl ?_; refine QJ rfl rfl rfl rfl rfl (by with_reducible first | exact lInt | exact Q9 | exact Q6 | exact lRess) rfl ?_; refine Qk igeq rfl rfl rfl rfl ?_; refine QK rfl rfl rfl rfl ?_; refine Qq rfl rfl rfl ?_)
  refine Q5 20 rfl (fun g1 => ?_) (fun g1 => ?_)
  · (refine Qy rfl rfl rfl ?_; refine Qy rfl rfl rfl ?_; refine Qy rfl rfl rfl ?_; refine QZ rfl rfl rfl rfl ?_; refine Qq rfl rfl rfl ?_; refine Qy rfl rfl rfl ?_; refine Qy rfl rfl rfl ?_; refine Qy rfl rfl rfl ?_; refine QZ rfl rfl rfl rfl ?_; refine Qq rfl rfl rfl ?_; refine Qy rfl rfl rfl ?_; refine Qy rfl rfl rfl ?_; refine Qy rfl rfl rfl ?_; refine Qy rfl rfl rfl ?_; refine Qy rfl rfl rfl ?_; refine QZ rfl rfl rfl rfl ?_; refine Qq rfl rfl rfl ?_; refine Qy rfl rfl rfl ?_; refine Qy rfl rfl rfl ?_; refine Qy rfl rfl rfl ?_; refine QZ rfl rfl rfl rfl ?_; refine Qq rfl rfl rfl ?_; refine Qy rfl rfl rfl ?_; refine Qy rfl rfl rfl ?_; refine Qy rfl rfl rfl ?_; refine QZ rfl rfl rfl rfl ?_; refine Qq rfl rfl rfl ?_; refine Qy rfl rfl rfl ?_; refine Qy rfl rfl rfl ?_; refine Qy rfl rfl rfl ?_; refine QZ rfl rfl rfl rfl ?_; refine Qq rfl rfl rfl ?_; refine Qy rfl rfl rfl ?_; refine Qy rfl rfl rfl ?_; refine Qy rfl rfl rfl ?_; refine QZ rfl rfl rfl rfl ?_; refine Qq rfl rfl rfl ?_; refine Qy rfl rfl rfl ?_; refine Qy rfl rfl rfl ?_; refine Qy rfl rfl rfl ?_; refine QZ rfl rfl rfl rfl ?_; refine Qj (hK _ _ (Qz (Qo rfl (Qw ?_)))); clear hK K; refine Qx (fun K hK => ?_); refine Qv rfl rfl rfl ?_; refine Qj (hK _ _ (Qz (Q0 (QY ?_)))); clear hK K)
    refine QU [_] rfl (QQ rfl QX) (by rw [show ckE r = 1 from if_pos (by unfold P1; omega)]; rfl) rfl
  (refine QV rfl rfl rfl (by with_reducible first | exact fS0 | exact fS1 | exact fS2 | exact fS3 | exact fS4 | exact fS5 | exact fS6 | exact fS7 | exact fS8 | exact fS9 | exact fS10 | exact fS11 | exact fN0 | exact fN1 | exact fN2 | exact fN3 | exact fN4 | exact fN5) rfl ?_; refine QJ rfl rfl rfl rfl rfl (by with_reducible first | exact lInt | exact Q9 | exact Q6 | exact lRess) rfl ?_; refine Qk ilss rfl rfl rfl rfl ?_; refine QK rfl rfl rfl rfl ?_; refine Qq rfl rfl rfl ?_)
  refine Q5 25 rfl (fun g2 => ?_) (fun g2 => ?_)
  · (refine Qy rfl rfl rfl ?_; refine Qy rfl rfl rfl ?_; refine Qy rfl rfl rfl ?_; refine QZ rfl rfl rfl rfl ?_; refine Qq rfl rfl rfl ?_; refine Qy rfl rfl rfl ?_; refine Qy rfl rfl rfl ?_; refine Qy rfl rfl rfl ?_; refine Qy rfl rfl rfl ?_; refine Qy rfl rfl rfl ?_; refine QZ rfl rfl rfl rfl ?_; refine Qq rfl rfl rfl ?_; refine Qy rfl rfl rfl ?_; refine Qy rfl rfl rfl ?_; refine Qy rfl rfl rfl ?_; refine QZ rfl rfl rfl rfl ?_; refine Qq rfl rfl rfl ?_; refine Qy rfl rfl rfl ?_; refine Qy rfl rfl rfl ?_; refine Qy rfl rfl rfl ?_; refine QZ rfl rfl rfl rfl ?_; refine Qq rfl rfl rfl ?_; refine Qy rfl rfl rfl ?_; refine Qy rfl rfl rfl ?_; refine Qy rfl rfl rfl ?_; refine QZ rfl rfl rfl rfl ?_; refine Qq rfl rfl rfl ?_; refine Qy rfl rfl rfl ?_; refine Qy rfl rfl rfl ?_; refine Qy rfl rfl rfl ?_; refine QZ rfl rfl rfl rfl ?_; refine Qq rfl rfl rfl ?_; refine Qy rfl rfl rfl ?_; refine Qy rfl rfl rfl ?_; refine Qy rfl rfl rfl ?_; refine QZ rfl rfl rfl rfl ?_; refine Qj (hK _ _ (Qz (Qo rfl (Qw ?_)))); clear hK K; refine Qx (fun K hK => ?_); refine Qv rfl rfl rfl ?_; refine Qj (hK _ _ (Qz (Q0 (QY ?_)))); clear hK K)
    refine QU [_] rfl (QQ rfl QX) (by rw [show ckE r = 1 from if_pos (by unfold P1; omega)]; rfl) rfl
  (refine QV rfl rfl rfl (by with_reducible first | exact fS0 | exact fS1 | exact fS2 | exact fS3 | exact fS4 | exact fS5 | exact fS6 | exact fS7 | exact fS8 | exact fS9 | exact fS10 | exact fS11 | exact fN0 | exact fN1 | exact fN2 | exact fN3 | exact fN4 | exact fN5) rfl ?_; refine QJ rfl rfl rfl rfl rfl (by with_reducible first | exact lInt | exact Q9 | exact Q6 | exact lRess) rfl ?_; refine Qk igtr rfl rfl rfl rfl ?_; refine QK rfl rfl rfl rfl ?_; refine Qq rfl rfl rfl ?_)
  refine Q5 30 rfl (fun g3 => ?_) (fun g3 => ?_)
  · (refine Qy rfl rfl rfl ?_; refine Qy rfl rfl rfl ?_; refine Qy rfl rfl rfl ?_; refine Qy rfl rfl rfl ?_; refine Qy rfl rfl rfl ?_; refine QZ rfl rfl rfl rfl ?_; refine Qq rfl rfl rfl ?_; refine Qy rfl rfl rfl ?_; refine Qy rfl rfl rfl ?_; refine Qy rfl rfl rfl ?_; refine QZ rfl rfl rfl rfl ?_; refine Qq rfl rfl rfl ?_; refine Qy rfl rfl rfl ?_; refine Qy rfl rfl rfl ?_; refine Qy rfl rfl rfl ?_; refine QZ rfl rfl rfl rfl ?_; refine Qq rfl rfl rfl ?_; refine Qy rfl rfl rfl ?_; refine Qy rfl rfl rfl ?_; refine Qy rfl rfl rfl ?_; refine QZ rfl rfl rfl rfl ?_; refine Qq rfl rfl rfl ?_; refine Qy rfl rfl rfl ?_; refine Qy rfl rfl rfl ?_; refine Qy rfl rfl rfl ?_; refine QZ rfl rfl rfl rfl ?_; refine Qq rfl rfl rfl ?_; refine Qy rfl rfl rfl ?_; refine Qy rfl rfl rfl ?_; refine Qy rfl rfl rfl ?_; refine QZ rfl rfl rfl rfl ?_; refine Qj (hK _ _ (Qz (Qo rfl (Qw ?_)))); clear hK K; refine Qx (fun K hK => ?_); refine Qv rfl rfl rfl ?_; refine Qj (hK _ _ (Qz (Q0 (QY ?_)))); clear hK K)
    refine QU [_] rfl (QQ rfl QX) (by rw [show ckE r = 1 from if_pos (by unfold P1; omega)]; rfl) rfl
  (refine QV rfl rfl rfl (by with_reducible first | exact fS0 | exact fS1 | exact fS2 | exact fS3 | exact fS4 | exact fS5 | exact fS6 | exact fS7 | exact fS8 | exact fS9 | exact fS10 | exact fS11 | exact fN0 | exact fN1 | exact fN2 | exact fN3 | exact fN4 | exact fN5) rfl ?_; refine QJ rfl rfl rfl rfl rfl (by with_reducible first | exact lInt | exact Q9 | exact Q6 | exact lRess) rfl ?_; refine QV rfl rfl rfl (by with_reducible first | exact fS0 | exact fS1 | exact fS2 | exact fS3 | exact fS4 | exact fS5 | exact fS6 | exact fS7 | exact fS8 | exact fS9 | exact fS10 | exact fS11 | exact fN0 | exact fN1 | exact fN2 | exact fN3 | exact fN4 | exact fN5) rfl ?_; refine QJ rfl rfl rfl rfl rfl (by with_reducible first | exact lInt | exact Q9 | exact Q6 | exact lRess) rfl ?_; refine Qk ilss rfl rfl rfl rfl ?_; refine QK rfl rfl rfl rfl ?_; refine Qq rfl rfl rfl ?_)
  refine Q5 37 rfl (fun g4 => ?_) (fun g4 => ?_)
  · (refine Qy rfl rfl rfl ?_; refine Qy rfl rfl rfl ?_; refine Qy rfl rfl rfl ?_; refine QZ rfl rfl rfl rfl ?_; refine Qq rfl rfl rfl ?_; refine Qy rfl rfl rfl ?_; refine Qy rfl rfl rfl ?_; refine Qy rfl rfl rfl ?_; refine QZ rfl rfl rfl rfl ?_; refine Qq rfl rfl rfl ?_; refine Qy rfl rfl rfl ?_; refine Qy rfl rfl rfl ?_; refine Qy rfl rfl rfl ?_; refine QZ rfl rfl rfl rfl ?_; refine Qq rfl rfl rfl ?_; refine Qy rfl rfl rfl ?_; refine Qy rfl rfl rfl ?_; refine Qy rfl rfl rfl ?_; refine QZ rfl rfl rfl rfl ?_; refine Qq rfl rfl rfl ?_; refine Qy rfl rfl rfl ?_; refine Qy rfl rfl rfl ?_; refine Qy rfl rfl rfl ?_; refine QZ rfl rfl rfl rfl ?_; refine Qj (hK _ _ (Qz (Qo rfl (Qw ?_)))); clear hK K; refine Qx (fun K hK => ?_); refine Qv rfl rfl rfl ?_; refine Qj (hK _ _ (Qz (Q0 (QY ?_)))); clear hK K)
    refine QU [_] rfl (QQ rfl QX) (by rw [show ckE r = 1 from if_pos (by unfold P1; omega)]; rfl) rfl
  (refine QV rfl rfl rfl (by with_reducible first | exact fS0 | exact fS1 | exact fS2 | exact fS3 | exact fS4 | exact fS5 | exact fS6 | exact fS7 | exact fS8 | exact fS9 | exact fS10 | exact fS11 | exact fN0 | exact fN1 | exact fN2 | exact fN3 | exact fN4 | exact fN5) rfl ?_; refine QJ rfl rfl rfl rfl rfl (by with_reducible first | exact lInt | exact Q9 | exact Q6 | exact lRess) rfl ?_; refine Qk igtr rfl rfl rfl rfl ?_; refine QK rfl rfl rfl rfl ?_; refine Qq rfl rfl rfl ?_)
  refine Q5 42 rfl (fun g5 => ?_) (fun g5 => ?_)
  · (refine Qy rfl rfl rfl ?_; refine Qy rfl rfl rfl ?_; refine Qy rfl rfl rfl ?_; refine QZ rfl rfl rfl rfl ?_; refine Qq rfl rfl rfl ?_; refine Qy rfl rfl rfl ?_; refine Qy rfl rfl rfl ?_; refine Qy rfl rfl rfl ?_; refine QZ rfl rfl rfl rfl ?_; refine Qq rfl rfl rfl ?_; refine Qy rfl rfl rfl ?_; refine Qy rfl rfl rfl ?_; refine Qy rfl rfl rfl ?_; refine QZ rfl rfl rfl rfl ?_; refine Qq rfl rfl rfl ?_; refine Qy rfl rfl rfl ?_; refine Qy rfl rfl rfl ?_; refine Qy rfl rfl rfl ?_; refine QZ rfl rfl rfl rfl ?_; refine Qj (hK _ _ (Qz (Qo rfl (Qw ?_)))); clear hK K; refine Qx (fun K hK => ?_); refine Qv rfl rfl rfl ?_; refine Qj (hK _ _ (Qz (Q0 (QY ?_)))); clear hK K)
    refine QU [_] rfl (QQ rfl QX) (by rw [show ckE r = 1 from if_pos (by unfold P1; omega)]; rfl) rfl
  (refine QV rfl rfl rfl (by with_reducible first | exact fS0 | exact fS1 | exact fS2 | exact fS3 | exact fS4 | exact fS5 | exact fS6 | exact fS7 | exact fS8 | exact fS9 | exact fS10 | exact fS11 | exact fN0 | exact fN1 | exact fN2 | exact fN3 | exact fN4 | exact fN5) rfl ?_; refine QJ rfl rfl rfl rfl rfl (by with_reducible first | exact lInt | exact Q9 | exact Q6 | exact lRess) rfl ?_; refine Qk ilss rfl rfl rfl rfl ?_; refine QK rfl rfl rfl rfl ?_; refine Qq rfl rfl rfl ?_)
  refine Q5 47 rfl (fun g6 => ?_) (fun g6 => ?_)
  · (refine Qy rfl rfl rfl ?_; refine Qy rfl rfl rfl ?_; refine Qy rfl rfl rfl ?_; refine QZ rfl rfl rfl rfl ?_; refine Qq rfl rfl rfl ?_; refine Qy rfl rfl rfl ?_; refine Qy rfl rfl rfl ?_; refine Qy rfl rfl rfl ?_; refine QZ rfl rfl rfl rfl ?_; refine Qq rfl rfl rfl ?_; refine Qy rfl rfl rfl ?_; refine Qy rfl rfl rfl ?_; refine Qy rfl rfl rfl ?_; refine QZ rfl rfl rfl rfl ?_; refine Qj (hK _ _ (Qz (Qo rfl (Qw ?_)))); clear hK K; refine Qx (fun K hK => ?_); refine Qv rfl rfl rfl ?_; refine Qj (hK _ _ (Qz (Q0 (QY ?_)))); clear hK K)
    refine QU [_] rfl (QQ rfl QX) (by rw [show ckE r = 1 from if_pos (by unfold P1; omega)]; rfl) rfl
  (refine QV rfl rfl rfl (by with_reducible first | exact fS0 | exact fS1 | exact fS2 | exact fS3 | exact fS4 | exact fS5 | exact fS6 | exact fS7 | exact fS8 | exact fS9 | exact fS10 | exact fS11 | exact fN0 | exact fN1 | exact fN2 | exact fN3 | exact fN4 | exact fN5) rfl ?_; refine QJ rfl rfl rfl rfl rfl (by with_reducible first | exact lInt | exact Q9 | exact Q6 | exact lRess) rfl ?_; refine Qk igtr rfl rfl rfl rfl ?_; refine QK rfl rfl rfl rfl ?_; refine Qq rfl rfl rfl ?_)
  refine Q5 52 rfl (fun g7 => ?_) (fun g7 => ?_)
  · (refine Qy rfl rfl rfl ?_; refine Qy rfl rfl rfl ?_; refine Qy rfl rfl rfl ?_; refine QZ rfl rfl rfl rfl ?_; refine Qq rfl rfl rfl ?_; refine Qy rfl rfl rfl ?_; refine Qy rfl rfl rfl ?_; refine Qy rfl rfl rfl ?_; refine QZ rfl rfl rfl rfl ?_; refine Qj (hK _ _ (Qz (Qo rfl (Qw ?_)))); clear hK K; refine Qx (fun K hK => ?_); refine Qv rfl rfl rfl ?_; refine Qj (hK _ _ (Qz (Q0 (QY ?_)))); clear hK K)
    refine QU [_] rfl (QQ rfl QX) (by rw [show ckE r = 1 from if_pos (by unfold P1; omega)]; rfl) rfl
  (refine QV rfl rfl rfl (by with_reducible first | exact fS0 | exact fS1 | exact fS2 | exact fS3 | exact fS4 | exact fS5 | exact fS6 | exact fS7 | exact fS8 | exact fS9 | exact fS10 | exact fS11 | exact fN0 | exact fN1 | exact fN2 | exact fN3 | exact fN4 | exact fN5) rfl ?_; refine QJ rfl rfl rfl rfl rfl (by with_reducible first | exact lInt | exact Q9 | exact Q6 | exact lRess) rfl ?_; refine Qk ilss rfl rfl rfl rfl ?_; refine QK rfl rfl rfl rfl ?_; refine Qq rfl rfl rfl ?_)
  refine Q5 57 rfl (fun g8 => ?_) (fun g8 => ?_)
  · (refine Qy rfl rfl rfl ?_; refine Qy rfl rfl rfl ?_; refine Qy rfl rfl rfl ?_; refine QZ rfl rfl rfl rfl ?_; refine Qj (hK _ _ (Qz (Qo rfl (Qw ?_)))); clear hK K; refine Qx (fun K hK => ?_); refine Qv rfl rfl rfl ?_; refine Qj (hK _ _ (Qz (Q0 (QY ?_)))); clear hK K)
    refine QU [_] rfl (QQ rfl QX) (by rw [show ckE r = 1 from if_pos (by unfold P1; omega)]; rfl) rfl
  (refine QV rfl rfl rfl (by with_reducible first | exact fS0 | exact fS1 | exact fS2 | exact fS3 | exact fS4 | exact fS5 | exact fS6 | exact fS7 | exact fS8 | exact fS9 | exact fS10 | exact fS11 | exact fN0 | exact fN1 | exact fN2 | exact fN3 | exact fN4 | exact fN5) rfl ?_; refine QJ rfl rfl rfl rfl rfl (by with_reducible first | exact lInt | exact Q9 | exact Q6 | exact lRess) rfl ?_; refine Qk igtr rfl rfl rfl rfl ?_; refine QK rfl rfl rfl rfl ?_; refine Qj (hK _ _ (Qz ?_)); clear hK K)
  refine Q2 rfl (fun h8 => ?_) (fun h8 => ?_)
  · (refine Qw (Qx fun K hK => ?_); refine Qv rfl rfl rfl ?_; refine Qj (hK _ _ (Qz (Q0 (QY ?_)))); clear hK K)
    refine QU [_] rfl (QQ rfl QX) (by rw [show ckE r = 1 from if_pos (by unfold P1; omega)]; rfl) rfl
  have n1 : ¬ P1 r := by unfold P1; omega
  clear h1 h8 g0 g1 g2 g3 g4 g5 g6 g7 g8
  refine Q1 ?_
  refine Qz ?_
  refine Qw ?_
  refine Qw ?_
  refine ZV (α := Bool) (fun b => b = decide (P2 r)) (fun b => [(1, .own 0), (74, .ct (boolC b))]) (fun _ => [(0, .box 35 (rsCs r))]) (fun b hb => ?_) (fun KK hN => ?_)
  rotate_left
  · (refine Qx (fun K hK => ?_); refine QV rfl rfl rfl (by with_reducible first | exact fS0 | exact fS1 | exact fS2 | exact fS3 | exact fS4 | exact fS5 | exact fS6 | exact fS7 | exact fS8 | exact fS9 | exact fS10 | exact fS11 | exact fN0 | exact fN1 | exact fN2 | exact fN3 | exact fN4 | exact fN5) rfl ?_; refine QJ rfl rfl rfl rfl rfl (by with_reducible first | exact lInt | exact Q9 | exact Q6 | exact lRess) rfl ?_; refine Qk ineq rfl rfl rfl rfl ?_; refine Qq rfl rfl rfl ?_)
    refine Q5 65 rfl (fun h9 => ?_) (fun h9 => ?_)
    · (refine QV rfl rfl rfl (by with_reducible first | exact fS0 | exact fS1 | exact fS2 | exact fS3 | exact fS4 | exact fS5 | exact fS6 | exact fS7 | exact fS8 | exact fS9 | exact fS10 | exact fS11 | exact fN0 | exact fN1 | exact fN2 | exact fN3 | exact fN4 | exact fN5) rfl ?_; refine QJ rfl rfl rfl rfl rfl (by with_reducible first | exact lInt | exact Q9 | exact Q6 | exact lRess) rfl ?_; refine Qk ineq rfl rfl rfl rfl ?_; refine QZ rfl rfl rfl rfl ?_; refine Qq rfl rfl rfl ?_)
      refine Q5 70 rfl (fun h10 => ?_) (fun h10 => ?_)
      · (refine QV rfl rfl rfl (by with_reducible first | exact fS0 | exact fS1 | exact fS2 | exact fS3 | exact fS4 | exact fS5 | exact fS6 | exact fS7 | exact fS8 | exact fS9 | exact fS10 | exact fS11 | exact fN0 | exact fN1 | exact fN2 | exact fN3 | exact fN4 | exact fN5) rfl ?_; refine QJ rfl rfl rfl rfl rfl (by with_reducible first | exact lInt | exact Q9 | exact Q6 | exact lRess) rfl ?_; refine Qk ineq rfl rfl rfl rfl ?_; refine QZ rfl rfl rfl rfl ?_; refine Qj (hK _ _ ?_); clear hK K)
        exact Qt hN (decide (r.pr ≠ 17)) (decide_eq_decide.2 ⟨fun h => ⟨h9, h10, h⟩, fun h => h.2.2⟩) (by exact Qu rfl ⟨rfl, rfl, trivial⟩)
      · (refine Qy rfl rfl rfl ?_; refine Qy rfl rfl rfl ?_; refine Qy rfl rfl rfl ?_; refine QK rfl rfl rfl rfl ?_; refine Qj (hK _ _ ?_); clear hK K)
        exact Qt hN false (decide_eq_false (fun h => h10 h.2.1)).symm (by exact Qu rfl ⟨rfl, rfl, trivial⟩)
    · (refine Qy rfl rfl rfl ?_; refine Qy rfl rfl rfl ?_; refine Qy rfl rfl rfl ?_; refine QK rfl rfl rfl rfl ?_; refine Qq rfl rfl rfl ?_; refine Qy rfl rfl rfl ?_; refine Qy rfl rfl rfl ?_; refine Qy rfl rfl rfl ?_; refine QK rfl rfl rfl rfl ?_; refine Qj (hK _ _ ?_); clear hK K)
      exact Qt hN false (decide_eq_false (fun h => h9 h.1)).symm (by exact Qu rfl ⟨rfl, rfl, trivial⟩)
  subst hb
  skip
  refine XX rfl (fun h9 => ?_) (fun h9 => ?_)
  · (refine Qw (Qx fun K hK => ?_); refine Qv rfl rfl rfl ?_; refine Qj (hK _ _ (Qz (Q0 (QY ?_)))); clear hK K)
    refine QU [_] rfl (QQ rfl QX) (by rw [show ckE r = 16 from (if_neg n1).trans (if_pos (of_decide_eq_true h9))]; rfl) rfl
  have n2 : ¬ P2 r := of_decide_eq_false h9
  (refine Q1 (Qz (Qw (Qx fun K hK => ?_))); refine QV rfl rfl rfl (by with_reducible first | exact fS0 | exact fS1 | exact fS2 | exact fS3 | exact fS4 | exact fS5 | exact fS6 | exact fS7 | exact fS8 | exact fS9 | exact fS10 | exact fS11 | exact fN0 | exact fN1 | exact fN2 | exact fN3 | exact fN4 | exact fN5) rfl ?_)
  refine Ops.ldNA (n := 6) rfl rfl rfl rfl (Nat.le_of_ble_eq_true rfl) (by with_reducible exact lAns) rfl ?_
  refine Qh 1 rfl rfl (by with_reducible exact zvAns) rfl rfl rfl ?_
  refine Qe 6 rfl rfl rfl rfl rfl (by with_reducible exact szAns) rfl rfl ?_
  have hbx : rsCs r = [intC r.va, intC r.ru, intC r.nu, intC r.tm, adrC r.dst.val, intC r.pr, intC r.fl, intC r.tt, boolC r.an, boolC r.db, intC r.bk, adrC r.fr.val, intC r.ki, intC r.co, intC r.le, intC r.id, intC r.qu] := rfl
  rw [hbx]
  clear hbx h9
  have e3 : P3 r = (r.an = false ∧ (r.db = true ∨ anI r ≠ [0, 0, 0, 0, 0, 0])) := rfl
  have e4 : P4 r = (r.an = true ∧ (r.ki < 1 ∨ 5 < r.ki ∨ r.co < 0 ∨ 255 < r.co ∨ r.le < 0 ∨ 255 < r.le ∨ r.qu < 0 ∨ 255 < r.qu ∨ r.id < 0 ∨ 65535 < r.id)) := rfl
  generalize han : r.an = an at e3 e4 ⊢
  generalize hdb : r.db = db at e3 ⊢
  cases an with
  | false =>
    cases db with
    | true =>
      (refine Qj (hK _ _ (Qz (Qw (Qw ?_)))); clear hK K; refine Qx (fun K hK => ?_); refine QV rfl rfl rfl (by with_reducible first | exact fS0 | exact fS1 | exact fS2 | exact fS3 | exact fS4 | exact fS5 | exact fS6 | exact fS7 | exact fS8 | exact fS9 | exact fS10 | exact fS11 | exact fN0 | exact fN1 | exact fN2 | exact fN3 | exact fN4 | exact fN5) rfl ?_; refine QJ rfl rfl rfl rfl rfl (by with_reducible first | exact lInt | exact Q9 | exact Q6 | exact lRess) rfl ?_; refine Qp rfl rfl rfl ?_; refine Qq rfl rfl rfl ?_; refine QV rfl rfl rfl (by with_reducible first | exact fS0 | exact fS1 | exact fS2 | exact fS3 | exact fS4 | exact fS5 | exact fS6 | exact fS7 | exact fS8 | exact fS9 | exact fS10 | exact fS11 | exact fN0 | exact fN1 | exact fN2 | exact fN3 | exact fN4 | exact fN5) rfl ?_; refine QJ rfl rfl rfl rfl rfl (by with_reducible first | exact lInt | exact Q9 | exact Q6 | exact lRess) rfl ?_; refine Qq rfl rfl rfl ?_; refine Qy rfl rfl rfl ?_; refine Qy rfl rfl rfl ?_; refine Qy rfl rfl rfl ?_; refine QZ rfl rfl rfl rfl ?_; refine QZ rfl rfl rfl rfl ?_; refine Qj (hK _ _ (Qz (Qo rfl (Qw ?_)))); clear hK K; refine Qx (fun K hK => ?_); refine Qv rfl rfl rfl ?_; refine Qj (hK _ _ (Qz (Q0 (QY ?_)))); clear hK K)
      refine QU [_] rfl (QQ rfl QX) (by rw [show ckE r = 7 from (if_neg n1).trans ((if_neg n2).trans (if_pos (by rw [e3]; exact ⟨rfl, .inl rfl⟩)))]; rfl) rfl
    | false =>
      (refine Qj (hK _ _ (Qz (Qw (Qw ?_)))); clear hK K; refine Qx (fun K hK => ?_); refine QV rfl rfl rfl (by with_reducible first | exact fS0 | exact fS1 | exact fS2 | exact fS3 | exact fS4 | exact fS5 | exact fS6 | exact fS7 | exact fS8 | exact fS9 | exact fS10 | exact fS11 | exact fN0 | exact fN1 | exact fN2 | exact fN3 | exact fN4 | exact fN5) rfl ?_; refine QJ rfl rfl rfl rfl rfl (by with_reducible first | exact lInt | exact Q9 | exact Q6 | exact lRess) rfl ?_; refine Qp rfl rfl rfl ?_; refine Qq rfl rfl rfl ?_; refine QV rfl rfl rfl (by with_reducible first | exact fS0 | exact fS1 | exact fS2 | exact fS3 | exact fS4 | exact fS5 | exact fS6 | exact fS7 | exact fS8 | exact fS9 | exact fS10 | exact fS11 | exact fN0 | exact fN1 | exact fN2 | exact fN3 | exact fN4 | exact fN5) rfl ?_; refine QJ rfl rfl rfl rfl rfl (by with_reducible first | exact lInt | exact Q9 | exact Q6 | exact lRess) rfl ?_; refine Qq rfl rfl rfl ?_)
      refine Qa (n := 6) rfl rfl rfl rfl rfl (by with_reducible exact lAns) rfl ?_
      refine Xq rfl (by with_reducible exact bAns) rfl .nil rfl ?_
      refine Ops.neS (ks := [.u32, .i64, .i64, .i64, .i64, .i64]) (anI r) [0, 0, 0, 0, 0, 0] rfl rfl rfl rfl rfl (by with_reducible exact eAns) rfl ?_
      (refine QK rfl rfl rfl rfl ?_; refine QZ rfl rfl rfl rfl ?_; refine Qj (hK _ _ (Qz ?_)); clear hK K)
      refine XX rfl (fun k0 => ?_) (fun k0 => ?_)
      · (refine Qw (Qx fun K hK => ?_); refine Qv rfl rfl rfl ?_; refine Qj (hK _ _ (Qz (Q0 (QY ?_)))); clear hK K)
        refine QU [_] rfl (QQ rfl QX) (by rw [show ckE r = 7 from (if_neg n1).trans ((if_neg n2).trans (if_pos (by rw [e3]; exact ⟨rfl, .inr (of_decide_eq_false (by simpa using k0))⟩)))]; rfl) rfl
      · have n3 : ¬ P3 r := by rw [e3]; exact fun h => h.2.elim (fun h => by cases h) (fun h => h (by simpa using k0))
        have n4 : ¬ P4 r := by rw [e4]; exact fun h => by cases h.1
        (refine Q1 (Qz (Qw (Qw (Qx fun K hK => ?_)))); refine QV rfl rfl rfl (by with_reducible first | exact fS0 | exact fS1 | exact fS2 | exact fS3 | exact fS4 | exact fS5 | exact fS6 | exact fS7 | exact fS8 | exact fS9 | exact fS10 | exact fS11 | exact fN0 | exact fN1 | exact fN2 | exact fN3 | exact fN4 | exact fN5) rfl ?_; refine QJ rfl rfl rfl rfl rfl (by with_reducible first | exact lInt | exact Q9 | exact Q6 | exact lRess) rfl ?_; refine Qq rfl rfl rfl ?_; refine Qy rfl rfl rfl ?_; refine Qy rfl rfl rfl ?_; refine Qy rfl rfl rfl ?_; refine Qy rfl rfl rfl ?_; refine Qy rfl rfl rfl ?_; refine Qy rfl rfl rfl ?_; refine Qy rfl rfl rfl ?_; refine Qy rfl rfl rfl ?_; refine Qy rfl rfl rfl ?_; refine Qy rfl rfl rfl ?_; refine Qy rfl rfl rfl ?_; refine Qy rfl rfl rfl ?_; refine Qy rfl rfl rfl ?_; refine Qy rfl rfl rfl ?_; refine Qy rfl rfl rfl ?_; refine Qy rfl rfl rfl ?_; refine Qy rfl rfl rfl ?_; refine Qy rfl rfl rfl ?_; refine Qy rfl rfl rfl ?_; refine Qy rfl rfl rfl ?_; refine Qy rfl rfl rfl ?_; refine Qy rfl rfl rfl ?_; refine Qy rfl rfl rfl ?_; refine Qy rfl rfl rfl ?_; refine Qy rfl rfl rfl ?_; refine Qy rfl rfl rfl ?_; refine Qy rfl rfl rfl ?_; refine Qy rfl rfl rfl ?_; refine Qy rfl rfl rfl ?_; refine Qy rfl rfl rfl ?_; refine Qy rfl rfl rfl ?_; refine Qy rfl rfl rfl ?_; refine Qy rfl rfl rfl ?_; refine Qy rfl rfl rfl ?_; refine Qy rfl rfl rfl ?_; refine Qy rfl rfl rfl ?_; refine QK rfl rfl rfl rfl ?_; refine Qj (hK _ _ (Qz (Xx rfl (Q1 (Qz (Qw ?_)))))); clear hK K; refine Qx (fun K hK => ?_); refine Qv rfl rfl rfl ?_; refine Qj (hK _ _ (Qz (Q0 ?_))); clear hK K)
        refine QU [_] rfl (QQ rfl QX) (by rw [show ckE r = 0 from (if_neg n1).trans ((if_neg n2).trans ((if_neg n3).trans (if_neg n4)))]; rfl) rfl
  | true =>
    have n3 : ¬ P3 r := by rw [e3]; exact fun h => by cases h.1
    (refine Qj (hK _ _ (Qz (Qw (Qw ?_)))); clear hK K; refine Qx (fun K hK => ?_); refine QV rfl rfl rfl (by with_reducible first | exact fS0 | exact fS1 | exact fS2 | exact fS3 | exact fS4 | exact fS5 | exact fS6 | exact fS7 | exact fS8 | exact fS9 | exact fS10 | exact fS11 | exact fN0 | exact fN1 | exact fN2 | exact fN3 | exact fN4 | exact fN5) rfl ?_; refine QJ rfl rfl rfl rfl rfl (by with_reducible first | exact lInt | exact Q9 | exact Q6 | exact lRess) rfl ?_; refine Qp rfl rfl rfl ?_; refine Qq rfl rfl rfl ?_; refine Qy rfl rfl rfl ?_; refine Qy rfl rfl rfl ?_; refine Qy rfl rfl rfl ?_; refine Qy rfl rfl rfl ?_; refine Qy rfl rfl rfl ?_; refine Qy rfl rfl rfl ?_; refine Qy rfl rfl rfl ?_; refine QK rfl rfl rfl rfl ?_; refine Qj (hK _ _ (Qz (Xx rfl (Q1 (Qz (Qw (Qw ?_))))))); clear hK K; refine Qx (fun K hK => ?_); refine QV rfl rfl rfl (by with_reducible first | exact fS0 | exact fS1 | exact fS2 | exact fS3 | exact fS4 | exact fS5 | exact fS6 | exact fS7 | exact fS8 | exact fS9 | exact fS10 | exact fS11 | exact fN0 | exact fN1 | exact fN2 | exact fN3 | exact fN4 | exact fN5) rfl ?_; refine QJ rfl rfl rfl rfl rfl (by with_reducible first | exact lInt | exact Q9 | exact Q6 | exact lRess) rfl ?_; refine Qq rfl rfl rfl ?_; refine QV rfl rfl rfl (by with_reducible first | exact fS0 | exact fS1 | exact fS2 | exact fS3 | exact fS4 | exact fS5 | exact fS6 | exact fS7 | exact fS8 | exact fS9 | exact fS10 | exact fS11 | exact fN0 | exact fN1 | exact fN2 | exact fN3 | exact fN4 | exact fN5) rfl ?_; refine QJ rfl rfl rfl rfl rfl (by with_reducible first | exact lInt | exact Q9 | exact Q6 | exact lRess) rfl ?_; refine Qk ilss rfl rfl rfl rfl ?_; refine Qq rfl rfl rfl ?_)
    refine Q5 95 rfl (fun k1 => ?_) (fun k1 => ?_)
    · (refine Qy rfl rfl rfl ?_; refine Qy rfl rfl rfl ?_; refine Qy rfl rfl rfl ?_; refine QZ rfl rfl rfl rfl ?_; refine Qq rfl rfl rfl ?_; refine Qy rfl rfl rfl ?_; refine Qy rfl rfl rfl ?_; refine Qy rfl rfl rfl ?_; refine Qy rfl rfl rfl ?_; refine QZ rfl rfl rfl rfl ?_; refine Qq rfl rfl rfl ?_; refine Qy rfl rfl rfl ?_; refine Qy rfl rfl rfl ?_; refine Qy rfl rfl rfl ?_; refine Qy rfl rfl rfl ?_; refine QZ rfl rfl rfl rfl ?_; refine Qq rfl rfl rfl ?_; refine Qy rfl rfl rfl ?_; refine Qy rfl rfl rfl ?_; refine Qy rfl rfl rfl ?_; refine Qy rfl rfl rfl ?_; refine QZ rfl rfl rfl rfl ?_; refine Qq rfl rfl rfl ?_; refine Qy rfl rfl rfl ?_; refine Qy rfl rfl rfl ?_; refine Qy rfl rfl rfl ?_; refine QZ rfl rfl rfl rfl ?_; refine Qq rfl rfl rfl ?_; refine Qy rfl rfl rfl ?_; refine Qy rfl rfl rfl ?_; refine Qy rfl rfl rfl ?_; refine QZ rfl rfl rfl rfl ?_; refine QZ rfl rfl rfl rfl ?_; refine Qj (hK _ _ (Qz (Qo rfl (Qw ?_)))); clear hK K; refine Qx (fun K hK => ?_); refine Qv rfl rfl rfl ?_; refine Qj (hK _ _ (Qz (Q0 (QY ?_)))); clear hK K)
      refine QU [_] rfl (QQ rfl QX) (by rw [show ckE r = 1 from (if_neg n1).trans ((if_neg n2).trans ((if_neg n3).trans (if_pos (by rw [e4]; exact ⟨rfl, by omega⟩))))]; rfl) rfl
    (refine QV rfl rfl rfl (by with_reducible first | exact fS0 | exact fS1 | exact fS2 | exact fS3 | exact fS4 | exact fS5 | exact fS6 | exact fS7 | exact fS8 | exact fS9 | exact fS10 | exact fS11 | exact fN0 | exact fN1 | exact fN2 | exact fN3 | exact fN4 | exact fN5) rfl ?_; refine QJ rfl rfl rfl rfl rfl (by with_reducible first | exact lInt | exact Q9 | exact Q6 | exact lRess) rfl ?_; refine Qk igtr rfl rfl rfl rfl ?_; refine QK rfl rfl rfl rfl ?_; refine Qq rfl rfl rfl ?_)
    refine Q5 100 rfl (fun k2 => ?_) (fun k2 => ?_)
    · (refine Qy rfl rfl rfl ?_; refine Qy rfl rfl rfl ?_; refine Qy rfl rfl rfl ?_; refine Qy rfl rfl rfl ?_; refine QZ rfl rfl rfl rfl ?_; refine Qq rfl rfl rfl ?_; refine Qy rfl rfl rfl ?_; refine Qy rfl rfl rfl ?_; refine Qy rfl rfl rfl ?_; refine Qy rfl rfl rfl ?_; refine QZ rfl rfl rfl rfl ?_; refine Qq rfl rfl rfl ?_; refine Qy rfl rfl rfl ?_; refine Qy rfl rfl rfl ?_; refine Qy rfl rfl rfl ?_; refine Qy rfl rfl rfl ?_; refine QZ rfl rfl rfl rfl ?_; refine Qq rfl rfl rfl ?_; refine Qy rfl rfl rfl ?_; refine Qy rfl rfl rfl ?_; refine Qy rfl rfl rfl ?_; refine QZ rfl rfl rfl rfl ?_; refine Qq rfl rfl rfl ?_; refine Qy rfl rfl rfl ?_; refine Qy rfl rfl rfl ?_; refine Qy rfl rfl rfl ?_; refine QZ rfl rfl rfl rfl ?_; refine QZ rfl rfl rfl rfl ?_; refine Qj (hK _ _ (Qz (Qo rfl (Qw ?_)))); clear hK K; refine Qx (fun K hK => ?_); refine Qv rfl rfl rfl ?_; refine Qj (hK _ _ (Qz (Q0 (QY ?_)))); clear hK K)
      refine QU [_] rfl (QQ rfl QX) (by rw [show ckE r = 1 from (if_neg n1).trans ((if_neg n2).trans ((if_neg n3).trans (if_pos (by rw [e4]; exact ⟨rfl, by omega⟩))))]; rfl) rfl
    (refine QV rfl rfl rfl (by with_reducible first | exact fS0 | exact fS1 | exact fS2 | exact fS3 | exact fS4 | exact fS5 | exact fS6 | exact fS7 | exact fS8 | exact fS9 | exact fS10 | exact fS11 | exact fN0 | exact fN1 | exact fN2 | exact fN3 | exact fN4 | exact fN5) rfl ?_; refine QJ rfl rfl rfl rfl rfl (by with_reducible first | exact lInt | exact Q9 | exact Q6 | exact lRess) rfl ?_)
    refine QW gooctet (octet_ok r.co) rfl rfl rfl rfl ?_
    refine Q5 103 rfl (fun k3 => ?_) (fun k3 => ?_)
    rotate_left
    · (refine Qp rfl rfl rfl ?_; refine QK rfl rfl rfl rfl ?_; refine Qq rfl rfl rfl ?_; refine Qy rfl rfl rfl ?_; refine Qy rfl rfl rfl ?_; refine Qy rfl rfl rfl ?_; refine Qy rfl rfl rfl ?_; refine QZ rfl rfl rfl rfl ?_; refine Qq rfl rfl rfl ?_; refine Qy rfl rfl rfl ?_; refine Qy rfl rfl rfl ?_; refine Qy rfl rfl rfl ?_; refine Qy rfl rfl rfl ?_; refine QZ rfl rfl rfl rfl ?_; refine Qq rfl rfl rfl ?_; refine Qy rfl rfl rfl ?_; refine Qy rfl rfl rfl ?_; refine Qy rfl rfl rfl ?_; refine QZ rfl rfl rfl rfl ?_; refine Qq rfl rfl rfl ?_; refine Qy rfl rfl rfl ?_; refine Qy rfl rfl rfl ?_; refine Qy rfl rfl rfl ?_; refine QZ rfl rfl rfl rfl ?_; refine QZ rfl rfl rfl rfl ?_; refine Qj (hK _ _ (Qz (Qo rfl (Qw ?_)))); clear hK K; refine Qx (fun K hK => ?_); refine Qv rfl rfl rfl ?_; refine Qj (hK _ _ (Qz (Q0 (QY ?_)))); clear hK K)
      refine QU [_] rfl (QQ rfl QX) (by rw [show ckE r = 1 from (if_neg n1).trans ((if_neg n2).trans ((if_neg n3).trans (if_pos (by rw [e4]; exact ⟨rfl, by omega⟩))))]; rfl) rfl
    (refine Qp rfl rfl rfl ?_; refine QK rfl rfl rfl rfl ?_; refine Qq rfl rfl rfl ?_; refine QV rfl rfl rfl (by with_reducible first | exact fS0 | exact fS1 | exact fS2 | exact fS3 | exact fS4 | exact fS5 | exact fS6 | exact fS7 | exact fS8 | exact fS9 | exact fS10 | exact fS11 | exact fN0 | exact fN1 | exact fN2 | exact fN3 | exact fN4 | exact fN5) rfl ?_; refine QJ rfl rfl rfl rfl rfl (by with_reducible first | exact lInt | exact Q9 | exact Q6 | exact lRess) rfl ?_)
    refine QW gooctet (octet_ok r.le) rfl rfl rfl rfl ?_
    refine Q5 109 rfl (fun k4 => ?_) (fun k4 => ?_)
    rotate_left
    · (refine Qp rfl rfl rfl ?_; refine QK rfl rfl rfl rfl ?_; refine Qq rfl rfl rfl ?_; refine Qy rfl rfl rfl ?_; refine Qy rfl rfl rfl ?_; refine Qy rfl rfl rfl ?_; refine Qy rfl rfl rfl ?_; refine QZ rfl rfl rfl rfl ?_; refine Qq rfl rfl rfl ?_; refine Qy rfl rfl rfl ?_; refine Qy rfl rfl rfl ?_; refine Qy rfl rfl rfl ?_; refine QZ rfl rfl rfl rfl ?_; refine Qq rfl rfl rfl ?_; refine Qy rfl rfl rfl ?_; refine Qy rfl rfl rfl ?_; refine Qy rfl rfl rfl ?_; refine QZ rfl rfl rfl rfl ?_; refine QZ rfl rfl rfl rfl ?_; refine Qj (hK _ _ (Qz (Qo rfl (Qw ?_)))); clear hK K; refine Qx (fun K hK => ?_); refine Qv rfl rfl rfl ?_; refine Qj (hK _ _ (Qz (Q0 (QY ?_)))); clear hK K)
      refine QU [_] rfl (QQ rfl QX) (by rw [show ckE r = 1 from (if_neg n1).trans ((if_neg n2).trans ((if_neg n3).trans (if_pos (by rw [e4]; exact ⟨rfl, by omega⟩))))]; rfl) rfl
    (refine Qp rfl rfl rfl ?_; refine QK rfl rfl rfl rfl ?_; refine Qq rfl rfl rfl ?_; refine QV rfl rfl rfl (by with_reducible first | exact fS0 | exact fS1 | exact fS2 | exact fS3 | exact fS4 | exact fS5 | exact fS6 | exact fS7 | exact fS8 | exact fS9 | exact fS10 | exact fS11 | exact fN0 | exact fN1 | exact fN2 | exact fN3 | exact fN4 | exact fN5) rfl ?_; refine QJ rfl rfl rfl rfl rfl (by with_reducible first | exact lInt | exact Q9 | exact Q6 | exact lRess) rfl ?_)
    refine QW gooctet (octet_ok r.qu) rfl rfl rfl rfl ?_
    refine Q5 115 rfl (fun k5 => ?_) (fun k5 => ?_)
    rotate_left
    · (refine Qp rfl rfl rfl ?_; refine QK rfl rfl rfl rfl ?_; refine Qq rfl rfl rfl ?_; refine Qy rfl rfl rfl ?_; refine Qy rfl rfl rfl ?_; refine Qy rfl rfl rfl ?_; refine QZ rfl rfl rfl rfl ?_; refine Qq rfl rfl rfl ?_; refine Qy rfl rfl rfl ?_; refine Qy rfl rfl rfl ?_; refine Qy rfl rfl rfl ?_; refine QZ rfl rfl rfl rfl ?_; refine QZ rfl rfl rfl rfl ?_; refine Qj (hK _ _ (Qz (Qo rfl (Qw ?_)))); clear hK K; refine Qx (fun K hK => ?_); refine Qv rfl rfl rfl ?_; refine Qj (hK _ _ (Qz (Q0 (QY ?_)))); clear hK K)
      refine QU [_] rfl (QQ rfl QX) (by rw [show ckE r = 1 from (if_neg n1).trans ((if_neg n2).trans ((if_neg n3).trans (if_pos (by rw [e4]; exact ⟨rfl, by omega⟩))))]; rfl) rfl
    (refine Qp rfl rfl rfl ?_; refine QK rfl rfl rfl rfl ?_; refine Qq rfl rfl rfl ?_; refine QV rfl rfl rfl (by with_reducible first | exact fS0 | exact fS1 | exact fS2 | exact fS3 | exact fS4 | exact fS5 | exact fS6 | exact fS7 | exact fS8 | exact fS9 | exact fS10 | exact fS11 | exact fN0 | exact fN1 | exact fN2 | exact fN3 | exact fN4 | exact fN5) rfl ?_; refine QJ rfl rfl rfl rfl rfl (by with_reducible first | exact lInt | exact Q9 | exact Q6 | exact lRess) rfl ?_; refine Qk ilss rfl rfl rfl rfl ?_; refine QK rfl rfl rfl rfl ?_; refine Qq rfl rfl rfl ?_)
    refine Q5 123 rfl (fun k6 => ?_) (fun k6 => ?_)
    · (refine Qy rfl rfl rfl ?_; refine Qy rfl rfl rfl ?_; refine Qy rfl rfl rfl ?_; refine QZ rfl rfl rfl rfl ?_; refine QZ rfl rfl rfl rfl ?_; refine Qj (hK _ _ (Qz (Qo rfl (Qw ?_)))); clear hK K; refine Qx (fun K hK => ?_); refine Qv rfl rfl rfl ?_; refine Qj (hK _ _ (Qz (Q0 (QY ?_)))); clear hK K)
      refine QU [_] rfl (QQ rfl QX) (by rw [show ckE r = 1 from (if_neg n1).trans ((if_neg n2).trans ((if_neg n3).trans (if_pos (by rw [e4]; exact ⟨rfl, by omega⟩))))]; rfl) rfl
    (refine QV rfl rfl rfl (by with_reducible first | exact fS0 | exact fS1 | exact fS2 | exact fS3 | exact fS4 | exact fS5 | exact fS6 | exact fS7 | exact fS8 | exact fS9 | exact fS10 | exact fS11 | exact fN0 | exact fN1 | exact fN2 | exact fN3 | exact fN4 | exact fN5) rfl ?_; refine QJ rfl rfl rfl rfl rfl (by with_reducible first | exact lInt | exact Q9 | exact Q6 | exact lRess) rfl ?_; refine Qk igtr rfl rfl rfl rfl ?_; refine QK rfl rfl rfl rfl ?_; refine QZ rfl rfl rfl rfl ?_; refine Qj (hK _ _ (Qz ?_)); clear hK K)
    refine Q2 rfl (fun k7 => ?_) (fun k7 => ?_)
    · (refine Qw (Qx fun K hK => ?_); refine Qv rfl rfl rfl ?_; refine Qj (hK _ _ (Qz (Q0 (QY ?_)))); clear hK K)
      refine QU [_] rfl (QQ rfl QX) (by rw [show ckE r = 1 from (if_neg n1).trans ((if_neg n2).trans ((if_neg n3).trans (if_pos (by rw [e4]; exact ⟨rfl, by omega⟩))))]; rfl) rfl
    have n4 : ¬ P4 r := by rw [e4]; exact fun h => by have := h.2; omega
    (refine Q1 (Qz (Qw (Qx fun K hK => ?_))); refine Qv rfl rfl rfl ?_; refine Qj (hK _ _ (Qz (Q0 ?_))); clear hK K)
    refine QU [_] rfl (QQ rfl QX) (by rw [show ckE r = 0 from (if_neg n1).trans ((if_neg n2).trans ((if_neg n3).trans (if_neg n4)))]; rfl) rfl
set_option maxHeartbeats 4000000 in
theorem ValidR_ok (r : Rs) : Ok Tryz.prog 73 [rsC r] (boolC (okR r)) := by
  have e0 : okR r = (decide (ckE r = 0) && (decide (r.dst.val ≠ 0) && (!r.an || decide (r.fr.val ≠ 0)))) := rfl
  have hC := jCheck_ok r
  generalize ckE r = e at e0 hC
  refine Ok.enter Tryz.func73 rfl _ Tryz.ntmps73 rfl ?_
  intro S w
  (refine Qw (Qx fun K hK => ?_); refine Xk 0 rfl rfl rfl rfl rfl rfl rfl ?_; refine Qv rfl rfl rfl ?_; refine Qj (hK _ _ (Qz (Qw ?_))); clear hK K; refine Qx (fun K hK => ?_); refine Qa (n := 17) rfl rfl rfl rfl rfl (by with_reducible exact lRes) rfl ?_)
  refine QW gojCheck hC rfl rfl rfl rfl ?_
  (refine Qk ieql rfl rfl rfl rfl ?_; refine Qq rfl rfl rfl ?_)
  refine Q5 6 rfl (fun h => ?_) (fun h => ?_)
  rotate_left
  · (refine Qy rfl rfl rfl ?_; refine Qy rfl rfl rfl ?_; refine Qy rfl rfl rfl ?_; refine QK rfl rfl rfl rfl ?_; refine Qq rfl rfl rfl ?_; refine Qy rfl rfl rfl ?_; refine Qy rfl rfl rfl ?_; refine Qy rfl rfl rfl ?_; refine Qy rfl rfl rfl ?_; refine Qy rfl rfl rfl ?_; refine Qy rfl rfl rfl ?_; refine Qy rfl rfl rfl ?_; refine Qy rfl rfl rfl ?_; refine Qy rfl rfl rfl ?_; refine QK rfl rfl rfl rfl ?_; refine Qv rfl rfl rfl ?_; refine Qj (hK _ _ (Qz (Q0 ?_))); clear hK K)
    refine QU [_] rfl (QQ rfl QX) (by rw [e0, decide_eq_false h]; rfl) rfl
  rw [decide_eq_true h, Bool.true_and] at e0
  (refine QV rfl rfl rfl (by with_reducible first | exact fS0 | exact fS1 | exact fS2 | exact fS3 | exact fS4 | exact fS5 | exact fS6 | exact fS7 | exact fS8 | exact fS9 | exact fS10 | exact fS11 | exact fN0 | exact fN1 | exact fN2 | exact fN3 | exact fN4 | exact fN5) rfl ?_; refine QJ rfl rfl rfl rfl rfl (by with_reducible first | exact lInt | exact Q9 | exact Q6 | exact lRess) rfl ?_; refine Qk ineq rfl rfl rfl rfl ?_; refine QZ rfl rfl rfl rfl ?_; refine Qq rfl rfl rfl ?_)
  refine Q5 11 rfl (fun h2 => ?_) (fun h2 => ?_)
  rotate_left
  · (refine Qy rfl rfl rfl ?_; refine Qy rfl rfl rfl ?_; refine Qy rfl rfl rfl ?_; refine Qy rfl rfl rfl ?_; refine Qy rfl rfl rfl ?_; refine Qy rfl rfl rfl ?_; refine Qy rfl rfl rfl ?_; refine Qy rfl rfl rfl ?_; refine Qy rfl rfl rfl ?_; refine QK rfl rfl rfl rfl ?_; refine Qv rfl rfl rfl ?_; refine Qj (hK _ _ (Qz (Q0 ?_))); clear hK K)
    refine QU [_] rfl (QQ rfl QX) (by rw [e0, decide_eq_false (show ¬ r.dst.val ≠ 0 by omega)]; rfl) rfl
  rw [decide_eq_true (show r.dst.val ≠ 0 by omega), Bool.true_and] at e0
  (refine QV rfl rfl rfl (by with_reducible first | exact fS0 | exact fS1 | exact fS2 | exact fS3 | exact fS4 | exact fS5 | exact fS6 | exact fS7 | exact fS8 | exact fS9 | exact fS10 | exact fS11 | exact fN0 | exact fN1 | exact fN2 | exact fN3 | exact fN4 | exact fN5) rfl ?_; refine QJ rfl rfl rfl rfl rfl (by with_reducible first | exact lInt | exact Q9 | exact Q6 | exact lRess) rfl ?_; refine Qp rfl rfl rfl ?_; refine Qq rfl rfl rfl ?_)
  refine X3 15 rfl (fun h3 => ?_) (fun h3 => ?_)
  · have h3 : r.an = false := by simpa using h3
    (refine Qy rfl rfl rfl ?_; refine Qy rfl rfl rfl ?_; refine Qy rfl rfl rfl ?_; refine Qy rfl rfl rfl ?_; refine QZ rfl rfl rfl rfl ?_; refine QZ rfl rfl rfl rfl ?_; refine Qv rfl rfl rfl ?_; refine Qj (hK _ _ (Qz (Q0 ?_))); clear hK K)
    refine QU [_] rfl (QQ rfl QX) (by rw [e0, h3]; rfl) rfl
  · have h3 : r.an = true := by simpa using h3
    (refine QV rfl rfl rfl (by with_reducible first | exact fS0 | exact fS1 | exact fS2 | exact fS3 | exact fS4 | exact fS5 | exact fS6 | exact fS7 | exact fS8 | exact fS9 | exact fS10 | exact fS11 | exact fN0 | exact fN1 | exact fN2 | exact fN3 | exact fN4 | exact fN5) rfl ?_; refine X2 rfl rfl (by with_reducible first | exact fN0 | exact fN1 | exact fN2 | exact fN3 | exact fN4 | exact fN5) rfl ?_; refine QJ rfl rfl rfl rfl rfl (by with_reducible first | exact lInt | exact Q9 | exact Q6 | exact lRess) rfl ?_; refine Qk ineq rfl rfl rfl rfl ?_; refine QK rfl rfl rfl rfl ?_; refine QZ rfl rfl rfl rfl ?_; refine Qv rfl rfl rfl ?_; refine Qj (hK _ _ (Qz (Q0 ?_))); clear hK K)
    refine QU [_] rfl (QQ rfl QX) (by rw [e0, h3, show decide (r.fr.val ≠ 0) = decide ((r.fr.val : Int) ≠ 0) from decide_eq_decide.2 (by omega)]; rfl) rfl
set_option maxHeartbeats 4000000 in
theorem rValidR_ok (r : Rs) : Ok Tryz.prog 79 [rsC r] (boolC (okR r)) := by
  have e0 : okR r = (decide (ckE r = 0) && (decide (r.dst.val ≠ 0) && (!r.an || decide (r.fr.val ≠ 0)))) := rfl
  have hC := rCheckR_ok r
  generalize ckE r = e at e0 hC
  refine Ok.enter Tryz.func79 rfl _ Tryz.ntmps79 rfl ?_
  intro S w
  (refine Qw (Qx fun K hK => ?_); refine Xk 0 rfl rfl rfl rfl rfl rfl rfl ?_; refine Qv rfl rfl rfl ?_; refine Qj (hK _ _ (Qz (Qw ?_))); clear hK K; refine Qx (fun K hK => ?_); refine Qa (n := 17) rfl rfl rfl rfl rfl (by with_reducible exact lRes) rfl ?_)
  refine QW gorCheckR hC rfl rfl rfl rfl ?_
  (refine Qk ieql rfl rfl rfl rfl ?_; refine Qq rfl rfl rfl ?_)
  refine Q5 6 rfl (fun h => ?_) (fun h => ?_)
  rotate_left
  · (refine Qy rfl rfl rfl ?_; refine Qy rfl rfl rfl ?_; refine Qy rfl rfl rfl ?_; refine QK rfl rfl rfl rfl ?_; refine Qq rfl rfl rfl ?_; refine Qy rfl rfl rfl ?_; refine Qy rfl rfl rfl ?_; refine Qy rfl rfl rfl ?_; refine Qy rfl rfl rfl ?_; refine Qy rfl rfl rfl ?_; refine Qy rfl rfl rfl ?_; refine Qy rfl rfl rfl ?_; refine Qy rfl rfl rfl ?_; refine Qy rfl rfl rfl ?_; refine QK rfl rfl rfl rfl ?_; refine Qv rfl rfl rfl ?_; refine Qj (hK _ _ (Qz (Q0 ?_))); clear hK K)
    refine QU [_] rfl (QQ rfl QX) (by rw [e0, decide_eq_false h]; rfl) rfl
  rw [decide_eq_true h, Bool.true_and] at e0
  (refine QV rfl rfl rfl (by with_reducible first | exact fS0 | exact fS1 | exact fS2 | exact fS3 | exact fS4 | exact fS5 | exact fS6 | exact fS7 | exact fS8 | exact fS9 | exact fS10 | exact fS11 | exact fN0 | exact fN1 | exact fN2 | exact fN3 | exact fN4 | exact fN5) rfl ?_; refine QJ rfl rfl rfl rfl rfl (by with_reducible first | exact lInt | exact Q9 | exact Q6 | exact lRess) rfl ?_; refine Qk ineq rfl rfl rfl rfl ?_; refine QZ rfl rfl rfl rfl ?_; refine Qq rfl rfl rfl ?_)
  refine Q5 11 rfl (fun h2 => ?_) (fun h2 => ?_)
  rotate_left
  · (refine Qy rfl rfl rfl ?_; refine Qy rfl rfl rfl ?_; refine Qy rfl rfl rfl ?_; refine Qy rfl rfl rfl ?_; refine Qy rfl rfl rfl ?_; refine Qy rfl rfl rfl ?_; refine Qy rfl rfl rfl ?_; refine Qy rfl rfl rfl ?_; refine Qy rfl rfl rfl ?_; refine QK rfl rfl rfl rfl ?_; refine Qv rfl rfl rfl ?_; refine Qj (hK _ _ (Qz (Q0 ?_))); clear hK K)
    refine QU [_] rfl (QQ rfl QX) (by rw [e0, decide_eq_false (show ¬ r.dst.val ≠ 0 by omega)]; rfl) rfl
  rw [decide_eq_true (show r.dst.val ≠ 0 by omega), Bool.true_and] at e0
  (refine QV rfl rfl rfl (by with_reducible first | exact fS0 | exact fS1 | exact fS2 | exact fS3 | exact fS4 | exact fS5 | exact fS6 | exact fS7 | exact fS8 | exact fS9 | exact fS10 | exact fS11 | exact fN0 | exact fN1 | exact fN2 | exact fN3 | exact fN4 | exact fN5) rfl ?_; refine QJ rfl rfl rfl rfl rfl (by with_reducible first | exact lInt | exact Q9 | exact Q6 | exact lRess) rfl ?_; refine Qp rfl rfl rfl ?_; refine Qq rfl rfl rfl ?_)
  refine X3 15 rfl (fun h3 => ?_) (fun h3 => ?_)
  · have h3 : r.an = false := by simpa using h3
    (refine Qy rfl rfl rfl ?_; refine Qy rfl rfl rfl ?_; refine Qy rfl rfl rfl ?_; refine Qy rfl rfl rfl ?_; refine QZ rfl rfl rfl rfl ?_; refine QZ rfl rfl rfl rfl ?_; refine Qv rfl rfl rfl ?_; refine Qj (hK _ _ (Qz (Q0 ?_))); clear hK K)
    refine QU [_] rfl (QQ rfl QX) (by rw [e0, h3]; rfl) rfl
  · have h3 : r.an = true := by simpa using h3
    (refine QV rfl rfl rfl (by with_reducible first | exact fS0 | exact fS1 | exact fS2 | exact fS3 | exact fS4 | exact fS5 | exact fS6 | exact fS7 | exact fS8 | exact fS9 | exact fS10 | exact fS11 | exact fN0 | exact fN1 | exact fN2 | exact fN3 | exact fN4 | exact fN5) rfl ?_; refine X2 rfl rfl (by with_reducible first | exact fN0 | exact fN1 | exact fN2 | exact fN3 | exact fN4 | exact fN5) rfl ?_; refine QJ rfl rfl rfl rfl rfl (by with_reducible first | exact lInt | exact Q9 | exact Q6 | exact lRess) rfl ?_; refine Qk ineq rfl rfl rfl rfl ?_; refine QK rfl rfl rfl rfl ?_; refine QZ rfl rfl rfl rfl ?_; refine Qv rfl rfl rfl ?_; refine Qj (hK _ _ (Qz (Q0 ?_))); clear hK K)
    refine QU [_] rfl (QQ rfl QX) (by rw [e0, h3, show decide (r.fr.val ≠ 0) = decide ((r.fr.val : Int) ≠ 0) from decide_eq_decide.2 (by omega)]; rfl) rfl
end Go.Proofs.YtlkdkbdgnjcopaaGreat
