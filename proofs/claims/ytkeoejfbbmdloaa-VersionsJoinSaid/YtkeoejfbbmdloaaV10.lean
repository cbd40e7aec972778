/-
  Walks: dice.Address, dice.Evidence.
-/
import Derived.Test.YtkeoejfbbmdloaaV5
import Derived.Test.YtkeoejfbbmdloaaD1
namespace Go.Proofs.Ytkeoejfbbmdloaa
open Go.Own
attribute [local irreducible] St Ops Go.Own.Fin Ok OkB OkN OkT OkL OkF wpR

theorem wrap_u32 {n : Int} (h1 : 0 ≤ n) (h2 : n < 4294967296) : IntKind.u32.wrap n = n := by
  rw [show IntKind.u32.wrap n = n % 4294967296 by simp [IntKind.wrap, IntKind.bits, IntKind.signed]]; omega
theorem add32 {p q : Int} (h1 : 0 ≤ p + q) (h2 : p + q < 4294967296) : IBin .add .u32 p .u32 q (.int .u32 (p + q)) := .of fun P t w => by
  show (Op.intArith .add .u32 p q).run P w = _
  simp [Op.intArith, wrap_u32 h1 h2]

theorem goAddress : InGo Try.prog 31 := InGo.of Try.func31 rfl (by decide)
theorem Address_ok (bs : List Int) (p : Nat) (hb : Bytes bs) : OkB Try.prog 31 69 (codes bs p) [] (fun q : Int × Nat => 0 ≤ q.1 ∧ q.1 < 200000000) (fun q => adrC q.1) (fun q => codes bs q.2) := by
  refine OkB.enter Try.func31 rfl _ Try.ntmps31 rfl ?_
  intro S w g
  (refine St.seq ?_; refine St.regionK (fun K hK => ?_); refine Ops.assign rfl rfl rfl ?_; refine Ops.nil (hK _ _ ?_); clear hK K; refine Fin.then ?_; refine St.seq ?_; refine St.regionK (fun K hK => ?_); refine Ops.move rfl rfl rfl ?_)
  refine Ops.lit (m := 8) (cs := ints [1, 2, 5, 6, 9, 10, 12, 13]) rfl rfl (by with_reducible exact sInts) (.one rfl rfl rfl rfl (.one rfl rfl rfl rfl (.one rfl rfl rfl rfl (.one rfl rfl rfl rfl (.one rfl rfl rfl rfl (.one rfl rfl rfl rfl (.one rfl rfl rfl rfl (.one rfl rfl rfl rfl .nil)))))))) (by decide) rfl ?_
  refine Ops.callB goPick (Pick_ok bs p [1, 2, 5, 6, 9, 10, 12, 13] (by decide) (by decide) hb) rfl rfl rfl rfl rfl (fun q hq => ?_)
  obtain ⟨x, p1⟩ := q
  have hx : 1 ≤ x ∧ x ≤ 13 := by
    simp only [List.mem_cons, List.not_mem_nil, or_false] at hq
    omega
  dsimp only
  (refine Ops.ibin (iadd (by omega) (by omega)) rfl rfl rfl rfl ?_)
  refine Ops.conv (q := 167772160 + x) rfl rfl (by with_reducible exact uInt) (by with_reducible exact uAddr) (wrap_u32 (by omega) (by omega)) rfl ?_
  (refine Ops.assign rfl rfl rfl ?_; refine Ops.nil (hK _ _ ?_); clear hK K; refine Fin.then ?_; refine St.ret ?_)
  refine Fin.retB (167772160 + x, p1) [_] rfl (AllRes.tmp rfl AllRes.nil) rfl rfl ⟨by show 0 ≤ 167772160 + x; omega, by show 167772160 + x < 200000000; omega⟩

theorem zvEv : (Try.prog.info? 60).map (·.zero) = some (some (.agg #[.int .i64 0, .int .u32 0, .int .u32 0, .slice none 0 0])) := by kernel_rfl
theorem lEv : LdN Try.prog 60 4 := LdN.of _ Try.underlying60 rfl (by kernel_rfl)
theorem szEv : (Try.prog.info? 60).map (·.size) = some 4 := by kernel_rfl
theorem bEv : bInfo Try.prog 60 = some (.agg #[.int .i64 0, .int .u32 0, .int .u32 0, .slice none 0 0], [(0, some 1), (1, some 1), (2, some 1), (3, some 1)]) := by kernel_rfl
theorem fE0 : fldInfo Try.prog 60 0 = some (0, some 1) := by kernel_rfl
theorem fE1 : fldInfo Try.prog 60 1 = some (1, some 1) := by kernel_rfl
theorem fE2 : fldInfo Try.prog 60 2 = some (2, some 1) := by kernel_rfl
theorem fE3 : fldInfo Try.prog 60 3 = some (3, some 1) := by kernel_rfl
theorem lIDs : Ld1 Try.prog 58 := Ld1.of _ Try.underlying58 rfl
theorem zIDs : (Try.prog.info? 58).map (·.size) = some 1 := by kernel_rfl
theorem bID : bInfo Try.prog 72 = some (.agg #[.int .i64 0, .int .i64 0, .int .i64 0], [(0, some 1), (1, some 1), (2, some 1)]) := by kernel_rfl
theorem sIDs : SlcT Try.prog 58 72 3 24 (.agg #[.int .i64 0, .int .i64 0, .int .i64 0]) := SlcT.of Try.underlying58 (by kernel_rfl) rfl (by decide)
abbrev idCs (n : Int) : List CT := [intC 0, intC 0, intC n]
def idr (ns : List Int) : List CT := (ns.map idCs).flatten
theorem idr_len (ns : List Int) : (idr ns).length = ns.length * 3 := by
  unfold idr
  rw [flatten_length (k := 3) (fun e he => by obtain ⟨m, _, rfl⟩ := List.mem_map.mp he; rfl)]; simp
theorem idr_snoc (ns : List Int) (n : Int) : idr (ns ++ [n]) = idr ns ++ idCs n := by simp [idr]
theorem idr_frozen (e : Nat) (ns : List Int) : (Ent.row e 3 (idr ns)).frozen (sliceT 3 (ns.map idCs)) :=
  ⟨_, rfl, fun e he => by obtain ⟨m, _, rfl⟩ := List.mem_map.mp he; rfl, by decide, rfl⟩

/-- Evidence, and how many codes are used. -/
structure Ev where
  k : Int
  a : Int
  b : Int
  ns : List Int
  p : Nat
abbrev evCs (e : Ev) : List CT := [intC e.k, adrC e.a, adrC e.b, .fr (sliceT 3 (e.ns.map idCs))]
def EvIn (e : Ev) : Prop := 0 ≤ e.a ∧ e.a < 300000000 ∧ 0 ≤ e.b ∧ e.b < 300000000
theorem goEvidence : InGo Try.prog 20 := InGo.of Try.func20 rfl (by decide)
set_option maxHeartbeats 4000000 in
theorem Evidence_ok (bs : List Int) (p : Nat) (hb : Bytes bs) : OkB Try.prog 20 69 (codes bs p) [] EvIn (fun q => .fr (aggT (evCs q))) (fun q => codes bs q.p) := by
  refine OkB.enter Try.func20 rfl _ Try.ntmps20 rfl ?_
  intro S w g
  (refine St.seq ?_; refine St.regionK (fun K hK => ?_); refine Ops.alloc 1 rfl rfl (by with_reducible exact zvEv) rfl rfl rfl ?_; refine Ops.nil (hK _ _ ?_); clear hK K; refine Fin.then ?_; refine St.seq ?_; refine St.regionK (fun K hK => ?_); refine Ops.move rfl rfl rfl ?_)
  refine Ops.callB goNext (Next_ok bs p 3 (by decide) (by decide) hb) rfl rfl rfl rfl rfl (fun q hq => ?_)
  obtain ⟨k0, p1⟩ := q
  dsimp only at hq ⊢
  (refine Ops.ibin (iadd (by omega) (by omega)) rfl rfl rfl rfl ?_; refine Ops.move rfl rfl rfl ?_)
  refine Ops.callB goAddress (Address_ok bs p1 hb) rfl rfl rfl rfl rfl (fun q hq1 => ?_)
  obtain ⟨a, p2⟩ := q
  dsimp only at hq1 ⊢
  (refine Ops.move rfl rfl rfl ?_)
  refine Ops.callB goAddress (Address_ok bs p2 hb) rfl rfl rfl rfl rfl (fun q hq2 => ?_)
  obtain ⟨b, p3⟩ := q
  dsimp only at hq2 ⊢
  refine Ops.build rfl (by with_reducible exact bEv) rfl (.one rfl rfl rfl rfl (.one rfl rfl rfl rfl (.one rfl rfl rfl rfl .nil))) rfl ?_
  (refine Ops.alloc 2 rfl rfl (by with_reducible exact zvEv) rfl rfl rfl ?_; refine Ops.stWN 4 rfl rfl rfl rfl rfl (by with_reducible first | exact szAtlas | exact szEv) rfl rfl ?_; refine Ops.nil (hK _ _ ?_); clear hK K; refine Fin.then ?_; refine St.seq ?_; refine St.seq ?_; refine St.regionK (fun K hK => ?_); refine Ops.fldO rfl rfl rfl (by with_reducible first | exact fK0 | exact fK1 | exact fK2 | exact fK3 | exact fK4 | exact fK5 | exact fK6 | exact fE0 | exact fE1 | exact fE2 | exact fE3 | exact fA0 | exact fD0 | exact fD1) rfl ?_; refine Ops.ld1A rfl rfl rfl rfl rfl (by with_reducible first | exact lInt | exact lAddr | exact lAssume | exact lClaims | exact lIDs) rfl ?_; refine Ops.fldO rfl rfl rfl (by with_reducible first | exact fK0 | exact fK1 | exact fK2 | exact fK3 | exact fK4 | exact fK5 | exact fK6 | exact fE0 | exact fE1 | exact fE2 | exact fE3 | exact fA0 | exact fD0 | exact fD1) rfl ?_; refine Ops.ld1A rfl rfl rfl rfl rfl (by with_reducible first | exact lInt | exact lAddr | exact lAssume | exact lClaims | exact lIDs) rfl ?_; refine Ops.ibin ieql rfl rfl rfl rfl ?_; refine Ops.nil (hK _ _ ?_); clear hK K; refine Fin.then ?_)
  refine St.condP rfl (fun hab => ?_) (fun hab => ?_)
  · (refine St.regionK (fun K hK => ?_); refine Ops.fldO rfl rfl rfl (by with_reducible first | exact fK0 | exact fK1 | exact fK2 | exact fK3 | exact fK4 | exact fK5 | exact fK6 | exact fE0 | exact fE1 | exact fE2 | exact fE3 | exact fA0 | exact fD0 | exact fD1) rfl ?_; refine Ops.ld1A rfl rfl rfl rfl rfl (by with_reducible first | exact lInt | exact lAddr | exact lAssume | exact lClaims | exact lIDs) rfl ?_)
    refine Ops.ibin (add32 (by omega) (by omega)) rfl rfl rfl rfl ?_
    have hA : 0 ≤ min a (b + 1) ∧ min a (b + 1) < 300000000 := by omega
    have hB : 0 ≤ max a (b + 1) ∧ max a (b + 1) < 300000000 := by omega
    (refine Ops.fldO rfl rfl rfl (by with_reducible first | exact fK0 | exact fK1 | exact fK2 | exact fK3 | exact fK4 | exact fK5 | exact fK6 | exact fE0 | exact fE1 | exact fE2 | exact fE3 | exact fA0 | exact fD0 | exact fD1) rfl ?_; refine Ops.st1A rfl rfl rfl rfl rfl (by with_reducible first | exact zInt | exact zAddr | exact zClaims) (Nat.le_of_ble_eq_true rfl) ?_; refine Ops.nil (hK _ _ ?_); clear hK K; refine Fin.then ?_; refine St.seq ?_; refine St.regionK (fun K hK => ?_); refine Ops.fldO rfl rfl rfl (by with_reducible first | exact fK0 | exact fK1 | exact fK2 | exact fK3 | exact fK4 | exact fK5 | exact fK6 | exact fE0 | exact fE1 | exact fE2 | exact fE3 | exact fA0 | exact fD0 | exact fD1) rfl ?_; refine Ops.ld1A rfl rfl rfl rfl rfl (by with_reducible first | exact lInt | exact lAddr | exact lAssume | exact lClaims | exact lIDs) rfl ?_; refine Ops.fldO rfl rfl rfl (by with_reducible first | exact fK0 | exact fK1 | exact fK2 | exact fK3 | exact fK4 | exact fK5 | exact fK6 | exact fE0 | exact fE1 | exact fE2 | exact fE3 | exact fA0 | exact fD0 | exact fD1) rfl ?_; refine Ops.ld1A rfl rfl rfl rfl rfl (by with_reducible first | exact lInt | exact lAddr | exact lAssume | exact lClaims | exact lIDs) rfl ?_; refine Ops.min2k rfl rfl rfl rfl ?_; refine Ops.fldO rfl rfl rfl (by with_reducible first | exact fK0 | exact fK1 | exact fK2 | exact fK3 | exact fK4 | exact fK5 | exact fK6 | exact fE0 | exact fE1 | exact fE2 | exact fE3 | exact fA0 | exact fD0 | exact fD1) rfl ?_; refine Ops.ld1A rfl rfl rfl rfl rfl (by with_reducible first | exact lInt | exact lAddr | exact lAssume | exact lClaims | exact lIDs) rfl ?_; refine Ops.fldO rfl rfl rfl (by with_reducible first | exact fK0 | exact fK1 | exact fK2 | exact fK3 | exact fK4 | exact fK5 | exact fK6 | exact fE0 | exact fE1 | exact fE2 | exact fE3 | exact fA0 | exact fD0 | exact fD1) rfl ?_; refine Ops.ld1A rfl rfl rfl rfl rfl (by with_reducible first | exact lInt | exact lAddr | exact lAssume | exact lClaims | exact lIDs) rfl ?_; refine Ops.max2k rfl rfl rfl rfl ?_; refine Ops.fldO rfl rfl rfl (by with_reducible first | exact fK0 | exact fK1 | exact fK2 | exact fK3 | exact fK4 | exact fK5 | exact fK6 | exact fE0 | exact fE1 | exact fE2 | exact fE3 | exact fA0 | exact fD0 | exact fD1) rfl ?_; refine Ops.st1A rfl rfl rfl rfl rfl (by with_reducible first | exact zInt | exact zAddr | exact zClaims) (Nat.le_of_ble_eq_true rfl) ?_; refine Ops.fldO rfl rfl rfl (by with_reducible first | exact fK0 | exact fK1 | exact fK2 | exact fK3 | exact fK4 | exact fK5 | exact fK6 | exact fE0 | exact fE1 | exact fE2 | exact fE3 | exact fA0 | exact fD0 | exact fD1) rfl ?_; refine Ops.st1A rfl rfl rfl rfl rfl (by with_reducible first | exact zInt | exact zAddr | exact zClaims) (Nat.le_of_ble_eq_true rfl) ?_; refine Ops.nil (hK _ _ ?_); clear hK K; refine Fin.then ?_; refine St.seq ?_; refine St.regionK (fun K hK => ?_); refine Ops.move rfl rfl rfl ?_)
    generalize min a (b + 1) = A at hA
    generalize max a (b + 1) = Bv at hB
    refine Ops.callB goNext (Next_ok bs p3 5 (by decide) (by decide) hb) rfl rfl rfl rfl rfl (fun q hq3 => ?_)
    obtain ⟨n0, p4⟩ := q
    dsimp only at hq3 ⊢
    (refine Ops.assign rfl rfl rfl ?_; refine Ops.nil (hK _ _ ?_); clear hK K; refine Fin.then ?_; refine St.seq ?_; refine St.seq ?_; refine St.regionK (fun K hK => ?_); refine Ops.move rfl rfl rfl ?_)
    refine Ops.callB goNext (Next_ok bs p4 3 (by decide) (by decide) hb) rfl rfl rfl rfl rfl (fun q hq4 => ?_)
    obtain ⟨k1, p5⟩ := q
    dsimp only at hq4 ⊢
    (refine Ops.assign rfl rfl rfl ?_; refine Ops.nil (hK _ _ ?_); clear hK K; refine Fin.then ?_; refine St.block ?_)
    refine St.nilX 3 72 3 rfl rfl ?_
    refine St.loop (α := Int × Int × List Int × Value × Nat) (fun x => -1 ≤ x.1 ∧ x.1 < 3 ∧ 0 ≤ x.2.1 ∧ x.2.1 + 3 * x.1 ≤ 20 ∧ x.2.2.1.length + x.1 ≤ 10 ∧ x.2.2.2.1.oneCell' = true)
      (fun x => [(0, .own 0), (2, .own 1), (3, .own 2), (4, .ct (intC x.2.1)), (5, .ct (intC x.1))])
      (fun x => [(3, .rowx x.2.2.2.1 72 3 (idr x.2.2.1)), (2, .box 60 [intC (1 + k0), adrC A, adrC Bv, .ex x.2.2.2.1]), (1, .box 60 [intC 0, adrC 0, adrC 0, .ex (.slice none 0 0)]), (0, .box 69 (codes bs x.2.2.2.2))]) (fun x => (x.1 + 1).toNat) (k1, n0, [], .slice none 0 0, p5) ⟨by dsimp only; omega, by dsimp only; omega, by dsimp only; omega, by dsimp only; omega, by simp; omega, rfl⟩ (by exact Entails.of rfl ⟨rfl, rfl, rfl, rfl, rfl, trivial⟩) ?_
    rintro ⟨k, n, ns, v, p6⟩ ⟨hk1, hk2, hn0, hn1, hns, hv⟩
    dsimp only at hk1 hk2 hn0 hn1 hns hv ⊢
    (refine St.seq ?_; refine St.seq ?_; refine St.regionK (fun K hK => ?_); refine Ops.move rfl rfl rfl ?_; refine Ops.ibin igeq rfl rfl rfl rfl ?_; refine Ops.nil (hK _ _ ?_); clear hK K; refine Fin.then ?_)
    refine St.condP rfl (fun hk => ?_) (fun hk => ?_)
    · (refine St.skip ?_; refine Fin.then ?_; refine St.seq ?_; refine St.block ?_; refine St.seq ?_; refine St.regionK (fun K hK => ?_); refine Ops.move rfl rfl rfl ?_; refine Ops.move rfl rfl rfl ?_)
      refine Ops.callB goNext (Next_ok bs p6 3 (by decide) (by decide) hb) rfl rfl rfl rfl rfl (fun q hq5 => ?_)
      obtain ⟨r, p7⟩ := q
      dsimp only at hq5 ⊢
      (refine Ops.ibin (iadd (by omega) (by omega)) rfl rfl rfl rfl ?_; refine Ops.ibin (iadd (by omega) (by omega)) rfl rfl rfl rfl ?_; refine Ops.assign rfl rfl rfl ?_; refine Ops.nil (hK _ _ ?_); clear hK K; refine Fin.then ?_; refine St.regionK (fun K hK => ?_); refine Ops.fldO rfl rfl rfl (by with_reducible first | exact fK0 | exact fK1 | exact fK2 | exact fK3 | exact fK4 | exact fK5 | exact fK6 | exact fE0 | exact fE1 | exact fE2 | exact fE3 | exact fA0 | exact fD0 | exact fD1) rfl ?_; refine Ops.ld1A rfl rfl rfl rfl rfl (by with_reducible first | exact lInt | exact lAddr | exact lAssume | exact lClaims | exact lIDs) rfl ?_; refine Ops.move rfl rfl rfl ?_)
      refine Ops.build rfl (by with_reducible exact bID) rfl (.one rfl rfl rfl rfl .nil) rfl ?_
      refine Ops.litN (n := 3) rfl rfl (by with_reducible exact sIDs) rfl rfl (by decide) rfl ?_
      refine Ops.link 49 3 rfl rfl ?_
      refine Ops.append1 ns.length (idr (ns ++ [n + (1 + r)])) rfl rfl rfl rfl (by with_reducible exact sIDs) (idr_len ns) rfl (by omega) (by omega) (idr_snoc ns (n + (1 + r))) rfl ?_
      (refine Ops.fldO rfl rfl rfl (by with_reducible first | exact fK0 | exact fK1 | exact fK2 | exact fK3 | exact fK4 | exact fK5 | exact fK6 | exact fE0 | exact fE1 | exact fE2 | exact fE3 | exact fA0 | exact fD0 | exact fD1) rfl ?_)
      refine Ops.name 53 3 rfl rfl (fun v' hv' => ?_)
      refine Ops.st1A (c := .ex v') rfl rfl rfl rfl hv' (by with_reducible exact zIDs) (Nat.le_of_ble_eq_true rfl) ?_
      (refine Ops.nil (hK _ _ ?_); clear hK K; refine Fin.then ?_; refine St.regionK (fun K hK => ?_); refine Ops.move rfl rfl rfl ?_; refine Ops.ibin (isub (by omega) (by omega)) rfl rfl rfl rfl ?_; refine Ops.assign rfl rfl rfl ?_; refine Ops.nil (hK _ _ ?_); clear hK K; refine Fin.thenN ?_)
      refine Fin.next (k - 1, n + (1 + r), ns ++ [n + (1 + r)], v', p7) (by dsimp only; omega) ⟨by dsimp only; omega, by dsimp only; omega, by dsimp only; omega, by dsimp only; omega, by simp; omega, hv'⟩ (by exact Entails.of rfl ⟨rfl, rfl, rfl, rfl, rfl, trivial⟩)
    · refine St.frzX 3 2 3 _ rfl rfl rfl (idr_frozen _ _) (okFix_lent rfl) ?_
      (refine St.exit ?_; refine Fin.then ?_; refine St.seq ?_; refine St.regionK (fun K hK => ?_); refine Ops.ldNO (n := 4) rfl rfl rfl rfl rfl (by with_reducible first | exact lAtlas | exact lEv) rfl ?_; refine Ops.stWN 4 rfl rfl rfl rfl rfl (by with_reducible first | exact szAtlas | exact szEv) rfl rfl ?_; refine Ops.nil (hK _ _ ?_); clear hK K; refine Fin.then ?_; refine St.ret ?_)
      refine Fin.endB ⟨1 + k0, A, Bv, ns, p6⟩ [_] rfl (AllRes.cellN (n := 4) rfl rfl (by with_reducible exact lEv) rfl AllRes.nil) rfl rfl ⟨hA.1, hA.2, hB.1, hB.2⟩
  · have hA : 0 ≤ min a (b) ∧ min a (b) < 300000000 := by omega
    have hB : 0 ≤ max a (b) ∧ max a (b) < 300000000 := by omega
    (refine St.skip ?_; refine Fin.then ?_; refine St.seq ?_; refine St.regionK (fun K hK => ?_); refine Ops.fldO rfl rfl rfl (by with_reducible first | exact fK0 | exact fK1 | exact fK2 | exact fK3 | exact fK4 | exact fK5 | exact fK6 | exact fE0 | exact fE1 | exact fE2 | exact fE3 | exact fA0 | exact fD0 | exact fD1) rfl ?_; refine Ops.ld1A rfl rfl rfl rfl rfl (by with_reducible first | exact lInt | exact lAddr | exact lAssume | exact lClaims | exact lIDs) rfl ?_; refine Ops.fldO rfl rfl rfl (by with_reducible first | exact fK0 | exact fK1 | exact fK2 | exact fK3 | exact fK4 | exact fK5 | exact fK6 | exact fE0 | exact fE1 | exact fE2 | exact fE3 | exact fA0 | exact fD0 | exact fD1) rfl ?_; refine Ops.ld1A rfl rfl rfl rfl rfl (by with_reducible first | exact lInt | exact lAddr | exact lAssume | exact lClaims | exact lIDs) rfl ?_; refine Ops.min2k rfl rfl rfl rfl ?_; refine Ops.fldO rfl rfl rfl (by with_reducible first | exact fK0 | exact fK1 | exact fK2 | exact fK3 | exact fK4 | exact fK5 | exact fK6 | exact fE0 | exact fE1 | exact fE2 | exact fE3 | exact fA0 | exact fD0 | exact fD1) rfl ?_; refine Ops.ld1A rfl rfl rfl rfl rfl (by with_reducible first | exact lInt | exact lAddr | exact lAssume | exact lClaims | exact lIDs) rfl ?_; refine Ops.fldO rfl rfl rfl (by with_reducible first | exact fK0 | exact fK1 | exact fK2 | exact fK3 | exact fK4 | exact fK5 | exact fK6 | exact fE0 | exact fE1 | exact fE2 | exact fE3 | exact fA0 | exact fD0 | exact fD1) rfl ?_; refine Ops.ld1A rfl rfl rfl rfl rfl (by with_reducible first | exact lInt | exact lAddr | exact lAssume | exact lClaims | exact lIDs) rfl ?_; refine Ops.max2k rfl rfl rfl rfl ?_; refine Ops.fldO rfl rfl rfl (by with_reducible first | exact fK0 | exact fK1 | exact fK2 | exact fK3 | exact fK4 | exact fK5 | exact fK6 | exact fE0 | exact fE1 | exact fE2 | exact fE3 | exact fA0 | exact fD0 | exact fD1) rfl ?_; refine Ops.st1A rfl rfl rfl rfl rfl (by with_reducible first | exact zInt | exact zAddr | exact zClaims) (Nat.le_of_ble_eq_true rfl) ?_; refine Ops.fldO rfl rfl rfl (by with_reducible first | exact fK0 | exact fK1 | exact fK2 | exact fK3 | exact fK4 | exact fK5 | exact fK6 | exact fE0 | exact fE1 | exact fE2 | exact fE3 | exact fA0 | exact fD0 | exact fD1) rfl ?_; refine Ops.st1A rfl rfl rfl rfl rfl (by with_reducible first | exact zInt | exact zAddr | exact zClaims) (Nat.le_of_ble_eq_true rfl) ?_; refine Ops.nil (hK _ _ ?_); clear hK K; refine Fin.then ?_; refine St.seq ?_; refine St.regionK (fun K hK => ?_); refine Ops.move rfl rfl rfl ?_)
    generalize min a (b) = A at hA
    generalize max a (b) = Bv at hB
    refine Ops.callB goNext (Next_ok bs p3 5 (by decide) (by decide) hb) rfl rfl rfl rfl rfl (fun q hq3 => ?_)
    obtain ⟨n0, p4⟩ := q
    dsimp only at hq3 ⊢
    (refine Ops.assign rfl rfl rfl ?_; refine Ops.nil (hK _ _ ?_); clear hK K; refine Fin.then ?_; refine St.seq ?_; refine St.seq ?_; refine St.regionK (fun K hK => ?_); refine Ops.move rfl rfl rfl ?_)
    refine Ops.callB goNext (Next_ok bs p4 3 (by decide) (by decide) hb) rfl rfl rfl rfl rfl (fun q hq4 => ?_)
    obtain ⟨k1, p5⟩ := q
    dsimp only at hq4 ⊢
    (refine Ops.assign rfl rfl rfl ?_; refine Ops.nil (hK _ _ ?_); clear hK K; refine Fin.then ?_; refine St.block ?_)
    refine St.nilX 3 72 3 rfl rfl ?_
    refine St.loop (α := Int × Int × List Int × Value × Nat) (fun x => -1 ≤ x.1 ∧ x.1 < 3 ∧ 0 ≤ x.2.1 ∧ x.2.1 + 3 * x.1 ≤ 20 ∧ x.2.2.1.length + x.1 ≤ 10 ∧ x.2.2.2.1.oneCell' = true)
      (fun x => [(0, .own 0), (2, .own 1), (3, .own 2), (4, .ct (intC x.2.1)), (5, .ct (intC x.1))])
      (fun x => [(3, .rowx x.2.2.2.1 72 3 (idr x.2.2.1)), (2, .box 60 [intC (1 + k0), adrC A, adrC Bv, .ex x.2.2.2.1]), (1, .box 60 [intC 0, adrC 0, adrC 0, .ex (.slice none 0 0)]), (0, .box 69 (codes bs x.2.2.2.2))]) (fun x => (x.1 + 1).toNat) (k1, n0, [], .slice none 0 0, p5) ⟨by dsimp only; omega, by dsimp only; omega, by dsimp only; omega, by dsimp only; omega, by simp; omega, rfl⟩ (by exact Entails.of rfl ⟨rfl, rfl, rfl, rfl, rfl, trivial⟩) ?_
    rintro ⟨k, n, ns, v, p6⟩ ⟨hk1, hk2, hn0, hn1, hns, hv⟩
    dsimp only at hk1 hk2 hn0 hn1 hns hv ⊢
    (refine St.seq ?_; refine St.seq ?_; refine St.regionK (fun K hK => ?_); refine Ops.move rfl rfl rfl ?_; refine Ops.ibin igeq rfl rfl rfl rfl ?_; refine Ops.nil (hK _ _ ?_); clear hK K; refine Fin.then ?_)
    refine St.condP rfl (fun hk => ?_) (fun hk => ?_)
    · (refine St.skip ?_; refine Fin.then ?_; refine St.seq ?_; refine St.block ?_; refine St.seq ?_; refine St.regionK (fun K hK => ?_); refine Ops.move rfl rfl rfl ?_; refine Ops.move rfl rfl rfl ?_)
      refine Ops.callB goNext (Next_ok bs p6 3 (by decide) (by decide) hb) rfl rfl rfl rfl rfl (fun q hq5 => ?_)
      obtain ⟨r, p7⟩ := q
      dsimp only at hq5 ⊢
      (refine Ops.ibin (iadd (by omega) (by omega)) rfl rfl rfl rfl ?_; refine Ops.ibin (iadd (by omega) (by omega)) rfl rfl rfl rfl ?_; refine Ops.assign rfl rfl rfl ?_; refine Ops.nil (hK _ _ ?_); clear hK K; refine Fin.then ?_; refine St.regionK (fun K hK => ?_); refine Ops.fldO rfl rfl rfl (by with_reducible first | exact fK0 | exact fK1 | exact fK2 | exact fK3 | exact fK4 | exact fK5 | exact fK6 | exact fE0 | exact fE1 | exact fE2 | exact fE3 | exact fA0 | exact fD0 | exact fD1) rfl ?_; refine Ops.ld1A rfl rfl rfl rfl rfl (by with_reducible first | exact lInt | exact lAddr | exact lAssume | exact lClaims | exact lIDs) rfl ?_; refine Ops.move rfl rfl rfl ?_)
      refine Ops.build rfl (by with_reducible exact bID) rfl (.one rfl rfl rfl rfl .nil) rfl ?_
      refine Ops.litN (n := 3) rfl rfl (by with_reducible exact sIDs) rfl rfl (by decide) rfl ?_
      refine Ops.link 49 3 rfl rfl ?_
      refine Ops.append1 ns.length (idr (ns ++ [n + (1 + r)])) rfl rfl rfl rfl (by with_reducible exact sIDs) (idr_len ns) rfl (by omega) (by omega) (idr_snoc ns (n + (1 + r))) rfl ?_
      (refine Ops.fldO rfl rfl rfl (by with_reducible first | exact fK0 | exact fK1 | exact fK2 | exact fK3 | exact fK4 | exact fK5 | exact fK6 | exact fE0 | exact fE1 | exact fE2 | exact fE3 | exact fA0 | exact fD0 | exact fD1) rfl ?_)
      refine Ops.name 53 3 rfl rfl (fun v' hv' => ?_)
      refine Ops.st1A (c := .ex v') rfl rfl rfl rfl hv' (by with_reducible exact zIDs) (Nat.le_of_ble_eq_true rfl) ?_
      (refine Ops.nil (hK _ _ ?_); clear hK K; refine Fin.then ?_; refine St.regionK (fun K hK => ?_); refine Ops.move rfl rfl rfl ?_; refine Ops.ibin (isub (by omega) (by omega)) rfl rfl rfl rfl ?_; refine Ops.assign rfl rfl rfl ?_; refine Ops.nil (hK _ _ ?_); clear hK K; refine Fin.thenN ?_)
      refine Fin.next (k - 1, n + (1 + r), ns ++ [n + (1 + r)], v', p7) (by dsimp only; omega) ⟨by dsimp only; omega, by dsimp only; omega, by dsimp only; omega, by dsimp only; omega, by simp; omega, hv'⟩ (by exact Entails.of rfl ⟨rfl, rfl, rfl, rfl, rfl, trivial⟩)
    · refine St.frzX 3 2 3 _ rfl rfl rfl (idr_frozen _ _) (okFix_lent rfl) ?_
      (refine St.exit ?_; refine Fin.then ?_; refine St.seq ?_; refine St.regionK (fun K hK => ?_); refine Ops.ldNO (n := 4) rfl rfl rfl rfl rfl (by with_reducible first | exact lAtlas | exact lEv) rfl ?_; refine Ops.stWN 4 rfl rfl rfl rfl rfl (by with_reducible first | exact szAtlas | exact szEv) rfl rfl ?_; refine Ops.nil (hK _ _ ?_); clear hK K; refine Fin.then ?_; refine St.ret ?_)
      refine Fin.endB ⟨1 + k0, A, Bv, ns, p6⟩ [_] rfl (AllRes.cellN (n := 4) rfl rfl (by with_reducible exact lEv) rfl AllRes.nil) rfl rfl ⟨hA.1, hA.2, hB.1, hB.2⟩
end Go.Proofs.Ytkeoejfbbmdloaa
