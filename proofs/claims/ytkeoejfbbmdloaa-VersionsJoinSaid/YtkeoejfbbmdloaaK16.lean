/-
  More rules: equal structs of integers; rows that are handed over, and rows that are lent; the copy within a row.
-/
import Derived.Test.YtkeoejfbbmdloaaK15
import Derived.Laws.StructEq
namespace Go.Own
open Go.RowKit

variable {X : Ctx} {L : AL} {B : BL} {ops : Array Oper} {K : Act → World → Prop} {r : Pl} {k : Kd}
  {x y z : Operand} {d : Nat} {t t2 t' : TypeId} {pos : String} {af : Array Edge} {g : Option (Nat × Bool)}

/-! ### Structs of integers -/

def kc : List IntKind → List Int → List CT
  | k :: ks, p :: ps => .ex (.int k p) :: kc ks ps
  | _, _ => []

/-- A struct type whose fields are integers of these kinds, one after the other. -/
structure EqS (P : Program) (t : TypeId) (ks : List IntKind) : Prop where
  und : P.underlying t = some (.struct (P.fieldsOf t))
  held : P.stoodInHeld t = false
  guard : P.eqGuardType P.depth t = false
  fields : (P.fieldsOf t).toList.map (fun f => (f.name == "_", f.offset, P.underlying f.type)) = ks.zipIdx.map (fun p => (false, p.2, some (TypeDesc.int p.1)))

theorem kc_cells {S : BSet} {w : World} : ∀ {ks : List IntKind} {ps : List Int} {vs : List Value}, ps.length = ks.length → cells S w (kc ks ps) vs → vs = (ks.zip ps).map (fun p => Value.int p.1 p.2)
  | [], [], [], _, _ => rfl
  | k :: ks, p :: ps, v :: vs, h, ⟨a, b⟩ => by
    have : v = .int k p := a
    rw [this, kc_cells (by simpa using h) b]; rfl
  | [], [], _ :: _, _, h => h.elim
  | _ :: _, _ :: _, [], _, h => h.elim
  | [], _ :: _, _, h, _ => by simp at h
  | _ :: _, [], _, h, _ => by simp at h

theorem run_part_int {P : Program} {t : TypeId} {kk : IntKind} {cs : Array Value} {o : Nat} {v : Value} (h : P.underlying t = some (.int kk)) (hv : cs[o]? = some v) (w : World) : (part t cs o).run P w = .ok v w := by
  simp [part, isAgg, run_underlying h, hv]

theorem run_eqFields {P : Program} (d : Nat) (xs ys : Array Value) (w : World) : ∀ (fs : List Field) (ks : List IntKind) (ps qs : List Int) (s : Nat), ps.length = ks.length → qs.length = ks.length →
    fs.map (fun f => (f.name == "_", f.offset, P.underlying f.type)) = (ks.zipIdx s).map (fun p => (false, p.2, some (TypeDesc.int p.1))) →
    (∀ j kk p, ks[j]? = some kk → ps[j]? = some p → xs[s + j]? = some (.int kk p)) → (∀ j kk q, ks[j]? = some kk → qs[j]? = some q → ys[s + j]? = some (.int kk q)) →
    (Op.eqFields (d + 1) xs ys fs).run P w = .ok (decide (ps = qs)) w
  | [], [], [], [], _, _, _, _, _, _ => by simp [Op.eqFields]
  | [], kk :: ks, _, _, _, _, _, h, _, _ => by simp at h
  | f :: fs, [], _, _, _, _, _, h, _, _ => by simp at h
  | f :: fs, kk :: ks, p :: ps, q :: qs, s, h1, h2, hf, hx, hy => by
    simp only [List.map_cons, List.zipIdx_cons] at hf
    injection hf with hf1 hf2
    injection hf1 with hn ho
    injection ho with ho hu
    have hx0 := hx 0 kk p rfl rfl
    have hy0 := hy 0 kk q rfl rfl
    rw [Nat.add_zero] at hx0 hy0
    have hne : f.name ≠ "_" := by simpa using hn
    have ih := run_eqFields d xs ys w fs ks ps qs (s + 1) (by simpa using h1) (by simpa using h2) hf2 (fun j k' p' a b => by rw [show s + 1 + j = s + (j + 1) by omega]; exact hx (j + 1) k' p' a b) (fun j k' p' a b => by rw [show s + 1 + j = s + (j + 1) by omega]; exact hy (j + 1) k' p' a b)
    simp only [Op.eqFields, if_pos hne, Sem.run_bind]
    rw [run_part_int hu (by rw [ho]; exact hx0)]
    simp only [Result.andThen_ok]
    rw [run_part_int hu (by rw [ho]; exact hy0)]
    simp only [Result.andThen_ok]
    rw [run_equalIn_int w d f.type kk kk p q hu]
    simp only [Result.andThen_ok]
    by_cases hpq : p = q
    · subst hpq
      simp [ih]
    · simp [hpq]
  | _ :: _, _ :: _, [], _, _, h, _, _, _, _ => by simp at h
  | _ :: _, _ :: _, _ :: _, [], _, _, h, _, _, _ => by simp at h
  | [], [], _ :: _, _, _, h, _, _, _, _ => by simp at h
  | [], [], [], _ :: _, _, _, h, _, _, _ => by simp at h

theorem zip_get {ks : List IntKind} {ps : List Int} {j : Nat} {kk : IntKind} {p : Int} (h1 : ks[j]? = some kk) (h2 : ps[j]? = some p) : ((ks.zip ps).map (fun p => Value.int p.1 p.2))[j]? = some (.int kk p) := by
  rw [List.getElem?_map, (List.getElem?_zip_eq_some (z := (kk, p))).2 ⟨h1, h2⟩]; rfl

theorem EqS.run {P : Program} {t : TypeId} {ks : List IntKind} (h : EqS P t ks) (ps qs : List Int) (h1 : ps.length = ks.length) (h2 : qs.length = ks.length) (w : World) :
    (Op.equalIn 10000 t (.agg ((ks.zip ps).map (fun p => Value.int p.1 p.2)).toArray) (.agg ((ks.zip qs).map (fun p => Value.int p.1 p.2)).toArray)).run P w = .ok (decide (ps = qs)) w := by
  rw [run_equalIn_struct w 9999 t _ _ h.und h.held]
  exact run_eqFields 9998 _ _ w _ ks ps qs 0 h1 h2 h.fields (fun j kk p a b => by rw [Nat.zero_add, List.getElem?_toArray]; exact zip_get a b) (fun j kk p a b => by rw [Nat.zero_add, List.getElem?_toArray]; exact zip_get a b)

theorem Ops.eqS {ks : List IntKind} (ps qs : List Int) (hg : gd ops L g = some true) (hx : ev L x = some (.ct (.fr (aggT (kc ks ps))))) (hy : ev L y = some (.ct (.fr (aggT (kc ks qs))))) (h1 : ps.length = ks.length) (h2 : qs.length = ks.length) (hE : EqS X.P t ks) (hn : Nat.blt d X.n = true)
    (h : Ops X ops r ((d, .ct (.ex (.bool (decide (ps = qs))))) :: L) B K) : Ops X ops (.cons ⟨some d, .binOp .eql t x y t2, t', pos, af, g⟩ k r) L B K :=
  Ops.val (s := .ct (.ex (.bool (decide (ps = qs))))) hg rfl hn (fun a ρ w hI => ⟨_, fun w' _ => by
    obtain ⟨us, e1, c1⟩ := hI.ev hx
    obtain ⟨vs, e2, c2⟩ := hI.ev hy
    have d1 := kc_cells h1 c1
    have d2 := kc_cells h2 c2
    subst d1; subst d2
    show (do pure (Next.value (← (do eqGuard .eql t x y (a.eval x) (a.eval y); binOp .eql t (a.eval x) (a.eval y) : Sem Value))) : Sem Next).run X.P w' = _
    rw [e1, e2]
    refine run_v ?_
    simp only [Sem.run_bind, run_eqGuard_agg w' _ t x y _ _ hE.guard, Result.andThen_ok]
    rw [run_eql_struct, hE.run ps qs h1 h2 w']; rfl, rfl⟩) h
theorem Ops.neS {ks : List IntKind} (ps qs : List Int) (hg : gd ops L g = some true) (hx : ev L x = some (.ct (.fr (aggT (kc ks ps))))) (hy : ev L y = some (.ct (.fr (aggT (kc ks qs))))) (h1 : ps.length = ks.length) (h2 : qs.length = ks.length) (hE : EqS X.P t ks) (hn : Nat.blt d X.n = true)
    (h : Ops X ops r ((d, .ct (.ex (.bool (!decide (ps = qs))))) :: L) B K) : Ops X ops (.cons ⟨some d, .binOp .neq t x y t2, t', pos, af, g⟩ k r) L B K :=
  Ops.val (s := .ct (.ex (.bool (!decide (ps = qs))))) hg rfl hn (fun a ρ w hI => ⟨_, fun w' _ => by
    obtain ⟨us, e1, c1⟩ := hI.ev hx
    obtain ⟨vs, e2, c2⟩ := hI.ev hy
    have d1 := kc_cells h1 c1
    have d2 := kc_cells h2 c2
    subst d1; subst d2
    show (do pure (Next.value (← (do eqGuard .neq t x y (a.eval x) (a.eval y); binOp .neq t (a.eval x) (a.eval y) : Sem Value))) : Sem Next).run X.P w' = _
    rw [e1, e2]
    refine run_v ?_
    simp only [Sem.run_bind, run_eqGuard_agg w' _ t x y _ _ hE.guard, Result.andThen_ok]
    rw [run_neq_struct, hE.run ps qs h1 h2 w']; rfl, rfl⟩) h

/-! ### Small ones -/

theorem Ops.max2k {kk : IntKind} {p q : Int} {tys : Array TypeId} (hg : gd ops L g = some true) (hx : ev L x = some (.ct (.ex (.int kk p)))) (hy : ev L y = some (.ct (.ex (.int kk q)))) (hn : Nat.blt d X.n = true) (h : Ops X ops r ((d, .ct (.ex (.int kk (max p q)))) :: L) B K) :
    Ops X ops (.cons ⟨some d, .call { callee := .builtin .max, args := #[x, y], argTypes := tys }, t', pos, af, g⟩ k r) L B K :=
  Ops.val (s := .ct (.ex (.int kk (max p q)))) hg rfl hn (fun a ρ w hI => by
    refine ⟨_, fun w' _ => run_builtin (args := [x, y]) ?_, rfl⟩
    intro _
    simp only [List.map_cons, List.map_nil, hI.evx hx, hI.evx hy]
    refine run_v ?_
    have : (if q > p then q else p) = max p q := by omega
    simp [Builtin.max_, Builtin.max2, this]) h
theorem Ops.min2k {kk : IntKind} {p q : Int} {tys : Array TypeId} (hg : gd ops L g = some true) (hx : ev L x = some (.ct (.ex (.int kk p)))) (hy : ev L y = some (.ct (.ex (.int kk q)))) (hn : Nat.blt d X.n = true) (h : Ops X ops r ((d, .ct (.ex (.int kk (min p q)))) :: L) B K) :
    Ops X ops (.cons ⟨some d, .call { callee := .builtin .min, args := #[x, y], argTypes := tys }, t', pos, af, g⟩ k r) L B K :=
  Ops.val (s := .ct (.ex (.int kk (min p q)))) hg rfl hn (fun a ρ w hI => by
    refine ⟨_, fun w' _ => run_builtin (args := [x, y]) ?_, rfl⟩
    intro _
    simp only [List.map_cons, List.map_nil, hI.evx hx, hI.evx hy]
    refine run_v ?_
    have : (if q < p then q else p) = min p q := by omega
    simp [Builtin.min_, Builtin.min2, this]) h
theorem Ops.max3 {kk : IntKind} {p q s : Int} {tys : Array TypeId} (hg : gd ops L g = some true) (hx : ev L x = some (.ct (.ex (.int kk p)))) (hy : ev L y = some (.ct (.ex (.int kk q)))) (hz : ev L z = some (.ct (.ex (.int kk s)))) (hn : Nat.blt d X.n = true) (h : Ops X ops r ((d, .ct (.ex (.int kk (max (max p q) s)))) :: L) B K) :
    Ops X ops (.cons ⟨some d, .call { callee := .builtin .max, args := #[x, y, z], argTypes := tys }, t', pos, af, g⟩ k r) L B K :=
  Ops.val (s := .ct (.ex (.int kk (max (max p q) s)))) hg rfl hn (fun a ρ w hI => by
    refine ⟨_, fun w' _ => run_builtin (args := [x, y, z]) ?_, rfl⟩
    intro _
    simp only [List.map_cons, List.map_nil, hI.evx hx, hI.evx hy, hI.evx hz]
    refine run_v ?_
    have h1 : (if q > p then q else p) = max p q := by omega
    have h2 : (if s > max p q then s else max p q) = max (max p q) s := by omega
    simp [Builtin.max_, Builtin.max2, h1, h2]) h
theorem Ops.min3 {kk : IntKind} {p q s : Int} {tys : Array TypeId} (hg : gd ops L g = some true) (hx : ev L x = some (.ct (.ex (.int kk p)))) (hy : ev L y = some (.ct (.ex (.int kk q)))) (hz : ev L z = some (.ct (.ex (.int kk s)))) (hn : Nat.blt d X.n = true) (h : Ops X ops r ((d, .ct (.ex (.int kk (min (min p q) s)))) :: L) B K) :
    Ops X ops (.cons ⟨some d, .call { callee := .builtin .min, args := #[x, y, z], argTypes := tys }, t', pos, af, g⟩ k r) L B K :=
  Ops.val (s := .ct (.ex (.int kk (min (min p q) s)))) hg rfl hn (fun a ρ w hI => by
    refine ⟨_, fun w' _ => run_builtin (args := [x, y, z]) ?_, rfl⟩
    intro _
    simp only [List.map_cons, List.map_nil, hI.evx hx, hI.evx hy, hI.evx hz]
    refine run_v ?_
    have h1 : (if q < p then q else p) = min p q := by omega
    have h2 : (if s < min p q then s else min p q) = min (min p q) s := by omega
    simp [Builtin.min_, Builtin.min2, h1, h2]) h

end Go.Own
