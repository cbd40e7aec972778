/-
  More rules: values and variables of array type; fields of struct values.
-/
import Derived.Test.YtkeoejfbbmdloaaK18
namespace Go.Own
open Go.RowKit

variable {X : Ctx} {L : AL} {B : BL} {ops : Array Oper} {K : Act → World → Prop} {r : Pl} {k : Kd}
  {x y z : Operand} {d : Nat} {t t2 t' : TypeId} {pos : String} {af : Array Edge} {g : Option (Nat × Bool)}

/-- An array type. -/
structure ArrT (P : Program) (t el len n : Nat) (zv : Value) : Prop where
  und : P.underlying t = some (.array len el)
  inf : (P.info? el).map (·.size) = some n
  zero : (P.info? t).map (·.zero) = some (some zv)

theorem ArrT.size {P : Program} {t el len n : Nat} {zv : Value} (h : ArrT P t el len n zv) (w : World) : (sizeOf el).run P w = .ok n w := by
  have := h.inf
  cases e : P.info? el with
  | none => rw [e] at this; cases this
  | some nf => rw [e] at this; injection this with this; rw [run_sizeOf e]; exact congrArg (fun q => Result.ok q w) this

theorem Ops.buildA {el len n : Nat} {ps : List (Nat × Operand)} {zv : Value} {cs : List CT} (hg : gd ops L g = some true) (hT : ArrT X.P t el len n zv) (hb : BParts L (fun i => some (i * n, n)) ps (zv.cells.toList.map CT.ex) cs) (hn : Nat.blt d X.n = true)
    (h : Ops X ops r ((d, .ct (.fr (aggT cs))) :: L) B K) : Ops X ops (.cons ⟨some d, .build t ps.toArray, t', pos, af, g⟩ k r) L B K :=
  Ops.val (s := .ct (.fr (aggT cs))) hg rfl hn (fun a ρ w hI => by
    obtain ⟨vs', h1, h2⟩ := hb.fill hI zv.cells.toList (cells_ex _)
    refine ⟨.agg vs'.toArray, fun w' _ => ?_, vs', rfl, h2⟩
    show (do pure (Next.value (← Instr.build t (ps.toArray.map fun (i, x) => (i, a.eval x)))) : Sem Next).run X.P w' = _
    refine run_v ?_
    rw [Array.toArray_toList] at h1
    simp only [Instr.build, Sem.run_bind, run_zeroValue hT.zero, Result.andThen_ok, run_underlying hT.und, hT.size, List.map_toArray]
    simp only [h1, Sem.run_pure]) h

theorem extract_part {vs : List Value} {o n : Nat} : vs.toArray.extract o (o + n) = ((vs.drop o).take n).toArray := by
  apply Array.ext'
  simp [List.take_drop, Nat.add_comm]

theorem BParts.aggE {pl : Nat → Option (Nat × Nat)} {i : Nat} {x : Operand} {ds : List CT} {off n : Nat} {q : List (Nat × Operand)} {cs cs' : List CT} (cs1 : List CT) (hp : pl i = some (off, n)) (hx : ev L x = some (.ct (.fr (aggT ds)))) (hl : ds.length = n) (hn : Nat.ble (off + n) cs.length = true) (hs : spl cs off ds = cs1) (h : BParts L pl q cs1 cs') : BParts L pl ((i, x) :: q) cs cs' :=
  .agg hp hx hl hn (by rw [hs]; exact h)

/-- An element, itself a struct or an array, of an array value. -/
theorem Ops.idxV {el len n : Nat} {zv : Value} {D : TypeDesc} {kk : IntKind} {j : Int} {es : List (List CT)} {e : List CT} (hg : gd ops L g = some true) (hx : ev L x = some (.ct (.fr (aggT es.flatten)))) (hy : ev L y = some (.ct (.ex (.int kk j)))) (hT : ArrT X.P t el len n zv) (hE : X.P.underlying el = some D) (hA : isAggD D = true) (hk : ∀ e ∈ es, e.length = n) (h0 : 0 ≤ j) (h1 : j < len) (he : es[j.toNat]? = some e) (hn : Nat.blt d X.n = true)
    (h : Ops X ops r ((d, .ct (.fr (aggT e))) :: L) B K) : Ops X ops (.cons ⟨some d, .index t x y, t', pos, af, g⟩ k r) L B K :=
  Ops.val (s := .ct (.fr (aggT e))) hg rfl hn (fun a ρ w hI => by
    obtain ⟨vs, h2, h3⟩ := hI.ev hx
    have h4 := (h3.drop (j.toNat * n)).take n
    rw [flatten_at hk he] at h4
    refine ⟨.agg ((vs.drop (j.toNat * n)).take n).toArray, fun w' _ => ?_, _, rfl, h4⟩
    show (do pure (Next.value (← Instr.index t (a.eval x) (a.eval y))) : Sem Next).run X.P w' = _
    rw [h2, hI.evx hy]
    refine run_v ?_
    simp [Instr.index, asIntOf, run_underlying hT.und, h0, h1, hT.size, part, run_isAgg hE hA, extract_part]) h

/-- The address of an element of an array variable. -/
theorem Ops.idxO {el len n i tt : Nat} {zv : Value} {kk : IntKind} {j : Int} {cs : List CT} (hg : gd ops L g = some true) (hx : ev L x = some (.own i)) (hi : bget B i = some (.box tt cs)) (hy : ev L y = some (.ct (.ex (.int kk j)))) (hT : ArrT X.P t el len n zv) (h0 : 0 ≤ j) (h1 : j < len) (hn : Nat.blt d X.n = true)
    (h : Ops X ops r ((d, .loc i (j.toNat * n)) :: L) B K) : Ops X ops (.cons ⟨some d, .indexAddr t x y, t', pos, af, g⟩ k r) L B K :=
  Ops.val (s := .loc i (j.toNat * n)) hg rfl hn (fun a ρ w hI => by
    have h2 : a.eval x = ρ i := hI.ev hx
    obtain ⟨gb, vs, h3, h4, h5⟩ := (hI.ent i _ hi).1
    refine ⟨.pointer (some ⟨gb, j.toNat * n, none⟩), fun w' _ => ?_, gb, by rw [h3]; rfl, rfl⟩
    show (do pure (Next.value (← Instr.indexAt t (a.eval x) (a.eval y))) : Sem Next).run X.P w' = _
    rw [h2, h3, hI.evx hy]
    refine run_v ?_
    simp [Instr.indexAt, asIntOf, run_underlying hT.und, h0, h1, hT.size, Instr.sureAddr, add_cell]) h

/-- A field, of one cell, of a struct value. -/
theorem Ops.fldV {f off : Nat} {cs : List CT} {c : CT} {D : TypeDesc} {fs : Array Field} {F : Field} (hg : gd ops L g = some true) (hx : ev L x = some (.ct (.fr (aggT cs)))) (hu : X.P.underlying t = some (.struct fs)) (hF : fs[f]? = some F) (ho : F.offset = off) (hD : X.P.underlying F.type = some D) (hA : isAggD D = false) (hc : cs[off]? = some c) (hn : Nat.blt d X.n = true)
    (h : Ops X ops r ((d, .ct c) :: L) B K) : Ops X ops (.cons ⟨some d, .field t x f, t', pos, af, g⟩ k r) L B K :=
  Ops.val (s := .ct c) hg rfl hn (fun a ρ w hI => by
    obtain ⟨vs, h2, h3⟩ := hI.ev hx
    obtain ⟨v, h4, h5⟩ := h3.get hc
    refine ⟨v, fun w' _ => ?_, h5⟩
    show (do pure (Next.value (← Instr.field t (a.eval x) f)) : Sem Next).run X.P w' = _
    rw [h2]
    refine run_v ?_
    simp [Instr.field, run_underlying hu, hF, asAgg, part, run_isAgg hD hA, ho, h4]) h

end Go.Own
