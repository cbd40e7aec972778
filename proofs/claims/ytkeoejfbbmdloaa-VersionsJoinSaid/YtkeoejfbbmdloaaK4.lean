/-
  The laws of operations on memory: taking tuples apart, lengths, addresses, loads, stores, new variables, literals, make, append, cuts; and of returning.
-/
import Derived.Test.YtkeoejfbbmdloaaK3
namespace Go.Own
open Go.RowKit

variable {X : Ctx} {L : AL} {B : BL} {ops : Array Oper} {K : Act → World → Prop} {r : Pl} {k : Kd}
  {x y z : Operand} {d : Nat} {t t2 t' : TypeId} {pos : String} {af : Array Edge} {g : Option (Nat × Bool)}

theorem add_cell (b o n : Nat) : (⟨b, o, none⟩ : Addr).add n = ⟨b, o + n, none⟩ := by unfold Addr.add; split <;> simp_all

/-! ### Types -/

structure SlcT (P : Program) (t el k bytes : Nat) (z : Value) : Prop where
  und : P.underlying t = some (.slice el)
  inf : ∃ i, P.info? el = some i ∧ i.size = k ∧ i.bytes = bytes ∧ i.zero = some z
  zs : z.cells.size = k
  pos : 0 < k
theorem SlcT.of {P : Program} {t el k bytes : Nat} {z : Value} (hu : P.underlying t = some (.slice el)) (hi : (P.info? el).map (fun i => (i.zero, i.size, i.bytes)) = some (some z, k, bytes)) (hz : z.cells.size = k) (hk : 0 < k) : SlcT P t el k bytes z := by
  refine ⟨hu, ?_, hz, hk⟩
  cases h : P.info? el with
  | none => rw [h] at hi; cases hi
  | some i => rw [h] at hi; simp only [Option.map_some, Option.some.injEq, Prod.mk.injEq] at hi; exact ⟨i, rfl, hi.2.1, hi.2.2, hi.1⟩

def isAggD : TypeDesc → Bool
  | .struct _ | .array _ _ => true
  | _ => false

/-- A type of one cell that is no struct and no array. -/
def Ld1 (P : Program) (t : TypeId) : Prop := ∃ D, P.underlying t = some D ∧ isAggD D = false
/-- A struct or an array of k cells. -/
def LdN (P : Program) (t k : Nat) : Prop := (∃ D, P.underlying t = some D ∧ isAggD D = true) ∧ ∃ i, P.info? t = some i ∧ i.size = k
theorem Ld1.of {P : Program} {t : TypeId} (D : TypeDesc) (h : P.underlying t = some D) (hd : isAggD D = false) : Ld1 P t := ⟨D, h, hd⟩
theorem LdN.of {P : Program} {t k : Nat} (D : TypeDesc) (h : P.underlying t = some D) (hd : isAggD D = true) (hi : (P.info? t).map (·.size) = some k) : LdN P t k := by
  refine ⟨⟨D, h, hd⟩, ?_⟩
  cases e : P.info? t with
  | none => rw [e] at hi; cases hi
  | some i => rw [e] at hi; injection hi with hi; exact ⟨i, rfl, hi⟩

theorem run_isAgg {P : Program} {t : TypeId} {D : TypeDesc} {b : Bool} (h : P.underlying t = some D) (hd : isAggD D = b) (w : World) : (isAgg t).run P w = .ok b w := by
  simp only [isAgg, Sem.run_bind, run_underlying h, Result.andThen_ok]
  subst hd
  cases D <;> rfl
theorem Ld1.run {P : Program} {t : TypeId} (h : Ld1 P t) {b o : Nat} {w : World} {v : Value} (hc : w.cell? ⟨b, o, none⟩ = some v) : (Instr.loadAt t (.pointer (some ⟨b, o, none⟩))).run P w = .ok v w := by
  obtain ⟨D, h1, h2⟩ := h
  simp [Instr.loadAt, Instr.sureAddr, loadVar, run_isAgg h1 h2, hc]
theorem run_sizeOf {P : Program} {t : TypeId} {i : TypeInfo} (h : P.info? t = some i) (w : World) : (sizeOf t).run P w = .ok i.size w := by
  simp only [sizeOf, typeInfo, program, Sem.run_bind]
  show ((match P.info? t with | some i => pure i | none => stuck "no such type" : Sem TypeInfo).run P w).andThen _ = _
  rw [h]; rfl
theorem LdN.run {P : Program} {t k : Nat} (h : LdN P t k) {b o : Nat} {w : World} {vs : List Value} (hl : vs.length = k) (hc : ∀ i u, vs[i]? = some u → w.cell? ⟨b, o + i, none⟩ = some u) :
    (Instr.loadAt t (.pointer (some ⟨b, o, none⟩))).run P w = .ok (.agg vs.toArray) w := by
  obtain ⟨⟨D, h1, h2⟩, i, h3, h4⟩ := h
  have := run_loadCells_list (P := P) w ⟨b, o, none⟩ vs (fun j v hv => by rw [add_cell]; exact hc j v hv)
  simp [Instr.loadAt, Instr.sureAddr, loadVar, run_isAgg h1 h2, run_sizeOf h3, h4, ← hl, this]

def fldInfo (P : Program) (s f : Nat) : Option (Nat × Option Nat) := match P.underlying s with
  | some (.struct fs) => (fs[f]?).map fun F => (F.offset, (P.info? F.type).map (·.size))
  | _ => none
theorem Fld.run {P : Program} {s f off sz : Nat} (h : fldInfo P s f = some (off, some (sz + 1))) (b o : Nat) (w : World) : (Instr.fieldAt s (.pointer (some ⟨b, o, none⟩)) f).run P w = .ok (.pointer (some ⟨b, o + off, none⟩)) w := by
  unfold fldInfo at h
  split at h
  · rename_i fs hu
    cases e : fs[f]? with
    | none => rw [e] at h; cases h
    | some F =>
      rw [e] at h
      simp only [Option.map_some, Option.some.injEq, Prod.mk.injEq] at h
      obtain ⟨rfl, h2⟩ := h
      cases e2 : P.info? F.type with
      | none => rw [e2] at h2; cases h2
      | some i =>
        rw [e2] at h2
        injection h2 with h2
        simp only [Instr.fieldAt, Sem.run_bind, run_underlying hu, Result.andThen_ok, e, Instr.sureAddr, Sem.run_pure, fieldPlace, run_sizeOf e2, h2]
        rw [if_neg (by omega)]
        simp [add_cell]
  · cases h

/-! ### Tuples, lengths, greatest and least -/

theorem Ops.extract {cs : List CT} {c : CT} {i : Nat} (hg : gd ops L g = some true) (hx : ev L x = some (.ct (.fr (tupT cs)))) (hc : cs[i]? = some c) (hn : Nat.blt d X.n = true) (h : Ops X ops r ((d, .ct c) :: L) B K) :
    Ops X ops (.cons ⟨some d, .extract x i, t, pos, af, g⟩ k r) L B K :=
  Ops.val (s := .ct c) hg rfl hn (fun a _ w hI => by
    obtain ⟨vs, h1, h2⟩ := hI.ev hx
    obtain ⟨v, h3, h4⟩ := h2.get hc
    refine ⟨v, fun w' _ => ?_, h4⟩
    show (do pure (Next.value (← Instr.extract (a.eval x) i)) : Sem Next).run X.P w' = _
    rw [h1]; refine run_v ?_; simp [Instr.extract, h3]) h

theorem run_builtin {P : Program} {bt : Builtin} {args : List Operand} {tys : Array TypeId} {ρ : Operand → Value} {w w' : World} {v : Value} {t : TypeId} {dst : Option Tmp} {pos : String} {af : Array Edge} {g : Option (Nat × Bool)}
    (h : ∀ cs, (builtin bt tys t cs (args.map ρ).toArray).run P w = .ok (.value v) w') :
    (execOp ρ ⟨dst, .call { callee := .builtin bt, args := args.toArray, argTypes := tys }, t, pos, af, g⟩).run P w = .ok (.value v) w' := by
  show (do let D ← resolve ρ { callee := .builtin bt, args := args.toArray, argTypes := tys } t; invoke D.target D.args : Sem Next).run P w = _
  simp only [resolve, Sem.run_bind, Sem.run_pure, Result.andThen_ok, invoke, List.map_toArray]
  exact h _

theorem run_lenSlice {P : Program} {t el ty : TypeId} (hu : P.underlying t = some (.slice el)) (a : Option Addr) (n c : Nat) (cs : Array Bool) (w : World) : (builtin .len #[t] ty cs #[.slice a n c]).run P w = .ok (.value (.int .i64 n)) w := by
  refine run_v ?_
  simp [Builtin.len_, run_underlying hu, goInt]

theorem Ops.lenF {el n m : Nat} {es : List (List CT)} (hg : gd ops L g = some true) (hx : ev L x = some (.ct (.fr (sliceT n es)))) (hu : X.P.underlying t = some (.slice el)) (hl : es.length = m) (hn : Nat.blt d X.n = true) (h : Ops X ops r ((d, .ct (.ex (.int .i64 m))) :: L) B K) :
    Ops X ops (.cons ⟨some d, .call { callee := .builtin .len, args := #[x], argTypes := #[t] }, t', pos, af, g⟩ k r) L B K :=
  Ops.val (s := .ct (.ex (.int .i64 m))) hg rfl hn (fun a _ w hI => by
    obtain ⟨ad, c, h1, _⟩ := hI.ev hx
    subst hl
    refine ⟨_, fun w' _ => run_builtin (args := [x]) ?_, rfl⟩
    intro _
    simp only [List.map_cons, List.map_nil, h1]
    exact run_lenSlice hu _ _ _ _ _) h

theorem row_len {S : BSet} {w : World} {e : TypeId} {n m : Nat} {cs : List CT} {v : Value} (ho : (Ent.row e n cs).ok S w v) (hp : 0 < n) (hl : cs.length = m * n) : ∃ a c, v = .slice a m c := by
  obtain ⟨n', vs, how, hc⟩ := ho
  have hl' := hc.length
  rw [how.1, hl] at hl'
  have : n' = m := Nat.eq_of_mul_eq_mul_right hp hl'
  subst this
  rcases how.2 with ⟨rfl, rfl⟩ | ⟨g, cap, cur, rfl, _⟩
  · exact ⟨_, _, rfl⟩
  · exact ⟨_, _, rfl⟩

theorem Ops.lenR {el n i e : Nat} {cs : List CT} (m : Nat) (hg : gd ops L g = some true) (hx : ev L x = some (.own i)) (hi : bget B i = some (.row e n cs)) (hp : 0 < n) (hl : cs.length = m * n) (hu : X.P.underlying t = some (.slice el)) (hn : Nat.blt d X.n = true) (h : Ops X ops r ((d, .ct (.ex (.int .i64 m))) :: L) B K) :
    Ops X ops (.cons ⟨some d, .call { callee := .builtin .len, args := #[x], argTypes := #[t] }, t', pos, af, g⟩ k r) L B K :=
  Ops.val (s := .ct (.ex (.int .i64 m))) hg rfl hn (fun a ρ w hI => by
    have h1 : a.eval x = ρ i := hI.ev hx
    obtain ⟨ad, c, h2⟩ := row_len (hI.ent i _ hi).1 hp hl
    refine ⟨_, fun w' _ => run_builtin (args := [x]) ?_, rfl⟩
    intro _
    simp only [List.map_cons, List.map_nil, h1, h2]
    exact run_lenSlice hu _ _ _ _ _) h

theorem Ops.lenNil {el : Nat} (hg : gd ops L g = some true) (hx : ev L x = some (.ct (.ex (.slice none 0 0)))) (hu : X.P.underlying t = some (.slice el)) (hn : Nat.blt d X.n = true) (h : Ops X ops r ((d, .ct (.ex (.int .i64 0))) :: L) B K) :
    Ops X ops (.cons ⟨some d, .call { callee := .builtin .len, args := #[x], argTypes := #[t] }, t', pos, af, g⟩ k r) L B K :=
  Ops.val (s := .ct (.ex (.int .i64 0))) hg rfl hn (fun a ρ w hI => by
    refine ⟨_, fun w' _ => run_builtin (args := [x]) ?_, rfl⟩
    intro _
    simp only [List.map_cons, List.map_nil, hI.evx hx]
    exact run_lenSlice hu _ _ _ _ _) h

theorem Ops.max2 {p q : Int} {tys : Array TypeId} (hg : gd ops L g = some true) (hx : ev L x = some (.ct (.ex (.int .i64 p)))) (hy : ev L y = some (.ct (.ex (.int .i64 q)))) (hn : Nat.blt d X.n = true) (h : Ops X ops r ((d, .ct (.ex (.int .i64 (max p q)))) :: L) B K) :
    Ops X ops (.cons ⟨some d, .call { callee := .builtin .max, args := #[x, y], argTypes := tys }, t', pos, af, g⟩ k r) L B K :=
  Ops.val (s := .ct (.ex (.int .i64 (max p q)))) hg rfl hn (fun a ρ w hI => by
    refine ⟨_, fun w' _ => run_builtin (args := [x, y]) ?_, rfl⟩
    intro _
    simp only [List.map_cons, List.map_nil, hI.evx hx, hI.evx hy]
    refine run_v ?_
    have : (if q > p then q else p) = max p q := by omega
    simp [Builtin.max_, Builtin.max2, this]) h
theorem Ops.min2 {p q : Int} {tys : Array TypeId} (hg : gd ops L g = some true) (hx : ev L x = some (.ct (.ex (.int .i64 p)))) (hy : ev L y = some (.ct (.ex (.int .i64 q)))) (hn : Nat.blt d X.n = true) (h : Ops X ops r ((d, .ct (.ex (.int .i64 (min p q)))) :: L) B K) :
    Ops X ops (.cons ⟨some d, .call { callee := .builtin .min, args := #[x, y], argTypes := tys }, t', pos, af, g⟩ k r) L B K :=
  Ops.val (s := .ct (.ex (.int .i64 (min p q)))) hg rfl hn (fun a ρ w hI => by
    refine ⟨_, fun w' _ => run_builtin (args := [x, y]) ?_, rfl⟩
    intro _
    simp only [List.map_cons, List.map_nil, hI.evx hx, hI.evx hy]
    refine run_v ?_
    have : (if q < p then q else p) = min p q := by omega
    simp [Builtin.min_, Builtin.min2, this]) h

/-! ### Addresses -/

theorem flatten_at {α : Type} {n : Nat} : ∀ {es : List (List α)} {j : Nat} {e : List α}, (∀ e ∈ es, e.length = n) → es[j]? = some e → (es.flatten.drop (j * n)).take n = e
  | [], _, _, _, h => by simp at h
  | f :: es, 0, e, hk, h => by
    simp at h; subst h
    have := hk f (List.mem_cons_self ..)
    simp [← this]
  | f :: es, j + 1, e, hk, h => by
    have hf := hk f (List.mem_cons_self ..)
    have hd : List.drop ((j + 1) * n) (f ++ es.flatten) = List.drop (j * n) es.flatten := by
      rw [List.drop_append, hf, Nat.add_mul, Nat.one_mul, List.drop_of_length_le (by omega), List.nil_append, Nat.add_sub_cancel]
    rw [List.flatten_cons, hd]
    exact flatten_at (fun e he => hk e (List.mem_cons_of_mem _ he)) (by simpa using h)

theorem run_index {P : Program} {t el : TypeId} {i : TypeInfo} (hu : P.underlying t = some (.slice el)) (hi : P.info? el = some i) {b o n c : Nat} {kk : IntKind} {j : Int} (h0 : 0 ≤ j) (h1 : j < n) (w : World) :
    (Instr.indexAt t (.slice (some ⟨b, o, none⟩) n c) (.int kk j)).run P w = .ok (.pointer (some ⟨b, o + j.toNat * i.size, none⟩)) w := by
  simp [Instr.indexAt, asIntOf, run_underlying hu, h0, h1, run_sizeOf hi, add_cell]

theorem Ops.idxF {el n bytes : Nat} {zv : Value} {kk : IntKind} {j : Int} {es : List (List CT)} {e : List CT} (hg : gd ops L g = some true) (hx : ev L x = some (.ct (.fr (sliceT n es)))) (hy : ev L y = some (.ct (.ex (.int kk j)))) (hT : SlcT X.P t el n bytes zv) (h0 : 0 ≤ j) (he : es[j.toNat]? = some e)
    (hn : Nat.blt d X.n = true) (h : Ops X ops r ((d, .ct (.fr (ptrT e))) :: L) B K) : Ops X ops (.cons ⟨some d, .indexAddr t x y, t', pos, af, g⟩ k r) L B K :=
  Ops.val (s := .ct (.fr (ptrT e))) hg rfl hn (fun a ρ w hI => by
    obtain ⟨ad, c, h1, h2, h3, h4, h5⟩ := hI.ev hx
    have hlt : j.toNat < es.length := (List.getElem?_eq_some_iff.1 he).1
    obtain ⟨b, o, rfl, hm⟩ := h5 (fun hn => by subst hn; simp at hlt)
    obtain ⟨i, hi, hs, _⟩ := hT.inf
    refine ⟨.pointer (some ⟨b, o + j.toNat * n, none⟩), fun w' _ => ?_, b, _, rfl, ?_⟩
    · show (do pure (Next.value (← Instr.indexAt t (a.eval x) (a.eval y))) : Sem Next).run X.P w' = _
      rw [h1, hI.evx hy]
      refine run_v ?_
      rw [run_index hT.und hi h0 (by omega), hs]
    · have := (hm.drop (j.toNat * n)).take n
      rwa [flatten_at h4 he] at this) h

theorem Ops.idxR {el n bytes i e : Nat} {zv : Value} {kk : IntKind} {j : Int} {cs : List CT} (m : Nat) (hg : gd ops L g = some true) (hx : ev L x = some (.own i)) (hi : bget B i = some (.row e n cs)) (hl : cs.length = m * n) (hy : ev L y = some (.ct (.ex (.int kk j)))) (hT : SlcT X.P t el n bytes zv) (h0 : 0 ≤ j) (hj : j < m)
    (hn : Nat.blt d X.n = true) (h : Ops X ops r ((d, .loc i (j.toNat * n)) :: L) B K) : Ops X ops (.cons ⟨some d, .indexAddr t x y, t', pos, af, g⟩ k r) L B K :=
  Ops.val (s := .loc i (j.toNat * n)) hg rfl hn (fun a ρ w hI => by
    have h1 : a.eval x = ρ i := hI.ev hx
    obtain ⟨nf, hi2, hs, _⟩ := hT.inf
    obtain ⟨n', vs, how, hc⟩ := (hI.ent i _ hi).1
    have hl' := hc.length
    rw [how.1, hl] at hl'
    have : n' = m := Nat.eq_of_mul_eq_mul_right hT.pos hl'
    subst this
    rcases how.2 with ⟨h2, h3⟩ | ⟨gb, cap, cur, h2, _⟩
    · omega
    · refine ⟨.pointer (some ⟨gb, j.toNat * n, none⟩), fun w' _ => ?_, gb, by rw [h2]; rfl, rfl⟩
      show (do pure (Next.value (← Instr.indexAt t (a.eval x) (a.eval y))) : Sem Next).run X.P w' = _
      rw [h1, h2, hI.evx hy]
      refine run_v ?_
      rw [run_index hT.und hi2 h0 (by omega), hs, Nat.zero_add]) h

theorem Ops.fldF {f off sz : Nat} {cs : List CT} (hg : gd ops L g = some true) (hx : ev L x = some (.ct (.fr (ptrT cs)))) (hF : fldInfo X.P t f = some (off, some (sz + 1))) (hn : Nat.blt d X.n = true) (h : Ops X ops r ((d, .ct (.fr (ptrT (cs.drop off)))) :: L) B K) :
    Ops X ops (.cons ⟨some d, .fieldAddr t x f, t', pos, af, g⟩ k r) L B K :=
  Ops.val (s := .ct (.fr (ptrT (cs.drop off)))) hg rfl hn (fun a ρ w hI => by
    obtain ⟨b, o, h1, hm⟩ := hI.ev hx
    refine ⟨.pointer (some ⟨b, o + off, none⟩), fun w' _ => ?_, b, _, rfl, hm.drop off⟩
    show (do pure (Next.value (← Instr.fieldAt t (a.eval x) f)) : Sem Next).run X.P w' = _
    rw [h1]; exact run_v (Fld.run hF b o w')) h
theorem Ops.fldO {f off sz i tt : Nat} {cs : List CT} (hg : gd ops L g = some true) (hx : ev L x = some (.own i)) (hi : bget B i = some (.box tt cs)) (hF : fldInfo X.P t f = some (off, some (sz + 1))) (hn : Nat.blt d X.n = true) (h : Ops X ops r ((d, .loc i off) :: L) B K) :
    Ops X ops (.cons ⟨some d, .fieldAddr t x f, t', pos, af, g⟩ k r) L B K :=
  Ops.val (s := .loc i off) hg rfl hn (fun a ρ w hI => by
    have h1 : a.eval x = ρ i := hI.ev hx
    obtain ⟨gb, vs, h2, _⟩ := (hI.ent i _ hi).1
    refine ⟨.pointer (some ⟨gb, off, none⟩), fun w' _ => ?_, gb, by rw [h2]; rfl, rfl⟩
    show (do pure (Next.value (← Instr.fieldAt t (a.eval x) f)) : Sem Next).run X.P w' = _
    rw [h1, h2]; refine run_v ?_; rw [Fld.run hF gb 0 w', Nat.zero_add]) h
theorem Ops.fldA {f off sz i o : Nat} (hg : gd ops L g = some true) (hx : ev L x = some (.loc i o)) (hF : fldInfo X.P t f = some (off, some (sz + 1))) (hn : Nat.blt d X.n = true) (h : Ops X ops r ((d, .loc i (o + off)) :: L) B K) :
    Ops X ops (.cons ⟨some d, .fieldAddr t x f, t', pos, af, g⟩ k r) L B K :=
  Ops.val (s := .loc i (o + off)) hg rfl hn (fun a ρ w hI => by
    obtain ⟨gb, h1, h2⟩ := hI.ev hx
    refine ⟨.pointer (some ⟨gb, o + off, none⟩), fun w' _ => ?_, gb, h1, rfl⟩
    show (do pure (Next.value (← Instr.fieldAt t (a.eval x) f)) : Sem Next).run X.P w' = _
    rw [h2]; exact run_v (Fld.run hF gb o w')) h

/-! ### Loads -/

theorem Ops.ld1F {c : CT} {cs : List CT} (hk : k.rd = true) (hg : gd ops L g = some true) (hx : ev L x = some (.ct (.fr (ptrT (c :: cs))))) (hT : Ld1 X.P t) (hn : Nat.blt d X.n = true) (h : Ops X ops r ((d, .ct c) :: L) B K) : Ops X ops (.cons ⟨some d, .load t x, t', pos, af, g⟩ k r) L B K :=
  Ops.rd (s := .ct c) hk hg rfl hn (fun a ρ w hI => by
    obtain ⟨b, o, h1, h2, h3, vs, h4, h5⟩ := hI.ev hx
    obtain ⟨v, h6, h7⟩ := h4.get (i := 0) rfl
    refine ⟨v, fun w' hb => ?_, h7⟩
    show (do pure (Next.value (← Instr.loadAt t (a.eval x))) : Sem Next).run X.P w' = _
    rw [h1]; exact run_v (hT.run ((hb.cell (p := ⟨b, o, none⟩) h3).trans (h5 0 v h6)))) h
theorem Ops.ldNF {n : Nat} {cs : List CT} (hk : k.rd = true) (hg : gd ops L g = some true) (hx : ev L x = some (.ct (.fr (ptrT cs)))) (hT : LdN X.P t n) (hl : Nat.ble n cs.length = true) (hn : Nat.blt d X.n = true) (h : Ops X ops r ((d, .ct (.fr (aggT (cs.take n)))) :: L) B K) : Ops X ops (.cons ⟨some d, .load t x, t', pos, af, g⟩ k r) L B K :=
  Ops.rd (s := .ct (.fr (aggT (cs.take n)))) hk hg rfl hn (fun a ρ w hI => by
    obtain ⟨b, o, h1, hm⟩ := hI.ev hx
    obtain ⟨h2, h3, vs, h4, h5⟩ := hm.take n
    refine ⟨.agg vs.toArray, fun w' hb => ?_, vs, rfl, h4⟩
    show (do pure (Next.value (← Instr.loadAt t (a.eval x))) : Sem Next).run X.P w' = _
    rw [h1]; refine run_v (hT.run (by rw [h4.length, List.length_take]; have := Nat.le_of_ble_eq_true hl; omega) fun i u hu => (hb.cell (p := ⟨b, o + i, none⟩) h3).trans (h5 i u hu))) h

def Ent.cs : Ent → List CT
  | .box _ cs => cs
  | .row _ _ cs => cs
  | .rowx _ _ _ cs => cs
theorem Ent.raw {S : BSet} {w : World} {hd : Value} {e : Ent} (ho : e.ok S w hd) {gb : Nat} (hb : blk hd = some gb) : ∃ cur tt vs, w.heap[gb]? = some (.cells cur tt (0, 0)) ∧ cells S w e.cs vs ∧ cur.toList.take vs.length = vs := by
  have hrow : ∀ e k cs, (Ent.row e k cs).ok S w hd → ∃ cur tt vs, w.heap[gb]? = some (.cells cur tt (0, 0)) ∧ cells S w cs vs ∧ cur.toList.take vs.length = vs := fun e k cs ho => by
    obtain ⟨m, vs, how, h2⟩ := ho
    rcases how.2 with ⟨rfl, _⟩ | ⟨g', cap, cur, rfl, _, h1, _, _, _, h5⟩
    · cases hb
    · injection hb with hb; subst hb; exact ⟨cur, e, vs, h1, h2, by rw [how.1]; exact h5⟩
  cases e with
  | box t cs => obtain ⟨g', vs, rfl, h1, h2⟩ := ho; injection hb with hb; subst hb; exact ⟨_, t, vs, h1, h2, by simp⟩
  | row e n cs => exact hrow e n cs ho
  | rowx v e n cs => exact hrow e n cs ho.2
theorem raw_cell {w : World} {gb tt : Nat} {cur : Array Value} {vs : List Value} (h : w.heap[gb]? = some (.cells cur tt (0, 0))) (ht : cur.toList.take vs.length = vs) {i : Nat} {u : Value} (hu : vs[i]? = some u) : w.cell? ⟨gb, i, none⟩ = some u := by
  have : cur[i]? = some u := by
    rw [← ht, List.getElem?_take] at hu
    split at hu
    · simpa using hu
    · cases hu
  simp [World.cell?, h, this]

theorem Ops.ld1A {c : CT} {i o : Nat} {e : Ent} (hk : k.rd = true) (hg : gd ops L g = some true) (hx : ev L x = some (.loc i o)) (hi : bget B i = some e) (hc : e.cs[o]? = some c) (hT : Ld1 X.P t) (hn : Nat.blt d X.n = true) (h : Ops X ops r ((d, .ct c) :: L) B K) : Ops X ops (.cons ⟨some d, .load t x, t', pos, af, g⟩ k r) L B K :=
  Ops.rd (s := .ct c) hk hg rfl hn (fun a ρ w hI => by
    obtain ⟨gb, h1, h2⟩ := hI.ev hx
    obtain ⟨cur, tt, vs, h3, h4, h5⟩ := Ent.raw (hI.ent i e hi).1 h1
    obtain ⟨v, h6, h7⟩ := h4.get hc
    refine ⟨v, fun w' hb => ?_, h7⟩
    show (do pure (Next.value (← Instr.loadAt t (a.eval x))) : Sem Next).run X.P w' = _
    rw [h2]; exact run_v (hT.run ((hb.cell (p := ⟨gb, o, none⟩) (heap_lt h3)).trans (raw_cell h3 h5 h6)))) h
theorem Ops.ld1O {c : CT} {i tt : Nat} {cs : List CT} (hk : k.rd = true) (hg : gd ops L g = some true) (hx : ev L x = some (.own i)) (hi : bget B i = some (.box tt cs)) (hc : cs[0]? = some c) (hT : Ld1 X.P t) (hn : Nat.blt d X.n = true) (h : Ops X ops r ((d, .ct c) :: L) B K) : Ops X ops (.cons ⟨some d, .load t x, t', pos, af, g⟩ k r) L B K :=
  Ops.rd (s := .ct c) hk hg rfl hn (fun a ρ w hI => by
    have h1 : a.eval x = ρ i := hI.ev hx
    obtain ⟨gb, vs, h2, h3, h4⟩ := (hI.ent i _ hi).1
    obtain ⟨v, h6, h7⟩ := h4.get hc
    refine ⟨v, fun w' hb => ?_, h7⟩
    show (do pure (Next.value (← Instr.loadAt t (a.eval x))) : Sem Next).run X.P w' = _
    rw [h1, h2]; exact run_v (hT.run ((hb.cell (p := ⟨gb, 0, none⟩) (heap_lt h3)).trans (raw_cell (vs := vs) h3 (by simp) h6)))) h
theorem Ops.ldNO {n i tt : Nat} {cs : List CT} (hk : k.rd = true) (hg : gd ops L g = some true) (hx : ev L x = some (.own i)) (hi : bget B i = some (.box tt cs)) (hl : cs.length = n) (hT : LdN X.P t n) (hn : Nat.blt d X.n = true) (h : Ops X ops r ((d, .ct (.fr (aggT cs))) :: L) B K) : Ops X ops (.cons ⟨some d, .load t x, t', pos, af, g⟩ k r) L B K :=
  Ops.rd (s := .ct (.fr (aggT cs))) hk hg rfl hn (fun a ρ w hI => by
    have h1 : a.eval x = ρ i := hI.ev hx
    obtain ⟨gb, vs, h2, h3, h4⟩ := (hI.ent i _ hi).1
    refine ⟨.agg vs.toArray, fun w' hb => ?_, vs, rfl, h4⟩
    show (do pure (Next.value (← Instr.loadAt t (a.eval x))) : Sem Next).run X.P w' = _
    rw [h1, h2]; refine run_v (hT.run (by rw [h4.length, hl]) fun j u hu => ?_)
    rw [Nat.zero_add]
    exact (hb.cell (p := ⟨gb, j, none⟩) (heap_lt h3)).trans (raw_cell (vs := vs) h3 (by simp) hu)) h
theorem Ops.ldNA {n i o : Nat} {e : Ent} (hk : k.rd = true) (hg : gd ops L g = some true) (hx : ev L x = some (.loc i o)) (hi : bget B i = some e) (hl : o + n ≤ e.cs.length) (hT : LdN X.P t n) (hn : Nat.blt d X.n = true) (h : Ops X ops r ((d, .ct (.fr (aggT ((e.cs.drop o).take n)))) :: L) B K) : Ops X ops (.cons ⟨some d, .load t x, t', pos, af, g⟩ k r) L B K :=
  Ops.rd (s := .ct (.fr (aggT ((e.cs.drop o).take n)))) hk hg rfl hn (fun a ρ w hI => by
    obtain ⟨gb, h1, h2⟩ := hI.ev hx
    obtain ⟨cur, tt, vs, h3, h4, h5⟩ := Ent.raw (hI.ent i e hi).1 h1
    have h6 := (h4.drop o).take n
    have hl' := h4.length
    refine ⟨.agg ((vs.drop o).take n).toArray, fun w' hb => ?_, _, rfl, h6⟩
    show (do pure (Next.value (← Instr.loadAt t (a.eval x))) : Sem Next).run X.P w' = _
    rw [h2]; refine run_v (hT.run (by rw [List.length_take, List.length_drop]; omega) fun j u hu => ?_)
    have hu' : vs[o + j]? = some u := by
      rw [List.getElem?_take] at hu
      split at hu
      · rwa [List.getElem?_drop] at hu
      · cases hu
    exact (hb.cell (p := ⟨gb, o + j, none⟩) (heap_lt h3)).trans (raw_cell h3 h5 hu')) h

end Go.Own
