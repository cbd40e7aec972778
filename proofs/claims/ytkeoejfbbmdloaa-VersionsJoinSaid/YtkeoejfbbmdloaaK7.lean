/-
  Bits; bools; returning.
-/
import Derived.Test.YtkeoejfbbmdloaaK6
namespace Go.Own
open Go.RowKit

variable {X : Ctx} {L : AL} {B : BL} {ops : Array Oper} {K : Act → World → Prop} {r : Pl} {k : Kd}
  {x y z : Operand} {d : Nat} {t t2 t' : TypeId} {pos : String} {af : Array Edge} {g : Option (Nat × Bool)}

/-! ### Bits -/

theorem iand30 {p : Int} : IBin .and .i64 p .i64 1073741823 (.int .i64 (p % 1073741824)) := .of fun P t w => by
  show (Op.intBits .and .i64 p 1073741823).run P w = _
  have h1 : (BitVec.ofInt 64 p &&& BitVec.ofInt 64 1073741823).toNat = (p % 1073741824).toNat := by
    rw [BitVec.toNat_and, BitVec.toNat_ofInt, BitVec.toNat_ofInt]
    have e2 : ((1073741823 : Int) % ((2 ^ 64 : Nat) : Int)).toNat = 2 ^ 30 - 1 := by decide
    rw [e2, Nat.and_two_pow_sub_one_eq_mod]
    omega
  have h2 : ((p % 1073741824).toNat : Int) = p % 1073741824 := by omega
  show (pure (Value.int .i64 (IntKind.i64.wrap ((BitVec.ofInt 64 p &&& BitVec.ofInt 64 1073741823).toNat : Int))) : Sem Value).run P w = _
  rw [h1, h2, wrap_id (n := p % 1073741824) (by omega) (by omega)]
  rfl

theorem ishr30 {p : Int} {kk : IntKind} : IBin .shr .i64 p kk 30 (.int .i64 (p / 1073741824)) := .of fun P t w => by
  show (Op.shift .shr .i64 p kk 30).run P w = _
  have e : (Op.shift .shr .i64 p kk 30) = pure (.int .i64 (p.fdiv (2 ^ 30))) := rfl
  rw [e, Int.fdiv_eq_ediv_of_nonneg _ (by decide)]
  rfl
theorem ishl30 {p : Int} {kk : IntKind} (h1 : -8589934592 ≤ p) (h2 : p < 8589934592) : IBin .shl .i64 p kk 30 (.int .i64 (p * 1073741824)) := .of fun P t w => by
  show (Op.shift .shl .i64 p kk 30).run P w = _
  have e : (Op.shift .shl .i64 p kk 30) = pure (.int .i64 (IntKind.i64.wrap (p * 2 ^ 30))) := rfl
  rw [e, show ((2 : Int) ^ 30) = 1073741824 from rfl, wrap_id (by omega) (by omega)]
  rfl
theorem ior30 {p q : Int} (h0 : 0 ≤ p) (h1 : p * 1073741824 ≤ 9223372036854775807) (hq : 0 ≤ q) (hq2 : q < 1073741824) : IBin .or .i64 (p * 1073741824) .i64 q (.int .i64 (p * 1073741824 + q)) := .of fun P t w => by
  show (Op.intBits .or .i64 (p * 1073741824) q).run P w = _
  have e1 : (BitVec.ofInt 64 (p * 1073741824) ||| BitVec.ofInt 64 q).toNat = (p * 1073741824 + q).toNat := by
    rw [BitVec.toNat_or, BitVec.toNat_ofInt, BitVec.toNat_ofInt]
    have a1 : ((p * 1073741824) % ((2 ^ 64 : Nat) : Int)).toNat = p.toNat * 1073741824 := by omega
    have a2 : (q % ((2 ^ 64 : Nat) : Int)).toNat = q.toNat := by omega
    rw [a1, a2]
    have := nat_join 30 (p.toNat * 1073741824) q.toNat (by omega) (by omega)
    rw [this]; omega
  have h2 : ((p * 1073741824 + q).toNat : Int) = p * 1073741824 + q := by omega
  show (pure (Value.int .i64 (IntKind.i64.wrap ((BitVec.ofInt 64 (p * 1073741824) ||| BitVec.ofInt 64 q).toNat : Int))) : Sem Value).run P w = _
  rw [e1, h2, wrap_id (n := p * 1073741824 + q) (by omega) (by omega)]
  rfl

/-! ### Bools -/

theorem run_equal_bool {P : Program} {t : TypeId} (hu : P.underlying t = some .bool) (p q : Bool) (w : World) : (Op.equal t (.bool p) (.bool q)).run P w = .ok (p == q) w := by
  have h : ∀ n, (Op.equalIn (n + 1) t (.bool p) (.bool q)).run P w = .ok (p == q) w := fun n => by simp [Op.equalIn, run_underlying hu]
  exact h 9999


theorem Ops.beq {p q : Bool} (hg : gd ops L g = some true) (hx : ev L x = some (.ct (.ex (.bool p)))) (hy : ev L y = some (.ct (.ex (.bool q)))) (hu : X.P.underlying t = some .bool) (hn : Nat.blt d X.n = true)
    (h : Ops X ops r ((d, .ct (.ex (.bool (decide (p = q))))) :: L) B K) : Ops X ops (.cons ⟨some d, .binOp .eql t x y t2, t', pos, af, g⟩ k r) L B K :=
  Ops.val (s := .ct (.ex (.bool (decide (p = q))))) hg rfl hn (fun a ρ w hI => ⟨_, fun w' _ => by
    show (do pure (Next.value (← (do eqGuard .eql t x y (a.eval x) (a.eval y); binOp .eql t (a.eval x) (a.eval y) : Sem Value))) : Sem Next).run X.P w' = _
    rw [hI.evx hx, hI.evx hy]
    refine run_v ?_
    have hgd : (eqGuard .eql t x y (.bool p) (.bool q)).run X.P w' = .ok () w' := rfl
    simp only [Sem.run_bind, hgd, Result.andThen_ok]
    have : (Op.equal t (.bool p) (.bool q)).run X.P w' = .ok (p == q) w' := run_equal_bool hu p q w'
    show (do pure (Value.bool (← Op.equal t (.bool p) (.bool q))) : Sem Value).run X.P w' = _
    simp only [Sem.run_bind, this, Result.andThen_ok, Sem.run_pure]
    cases p <;> cases q <;> rfl, rfl⟩) h
theorem Ops.bne {p q : Bool} (hg : gd ops L g = some true) (hx : ev L x = some (.ct (.ex (.bool p)))) (hy : ev L y = some (.ct (.ex (.bool q)))) (hu : X.P.underlying t = some .bool) (hn : Nat.blt d X.n = true)
    (h : Ops X ops r ((d, .ct (.ex (.bool (decide (p ≠ q))))) :: L) B K) : Ops X ops (.cons ⟨some d, .binOp .neq t x y t2, t', pos, af, g⟩ k r) L B K :=
  Ops.val (s := .ct (.ex (.bool (decide (p ≠ q))))) hg rfl hn (fun a ρ w hI => ⟨_, fun w' _ => by
    show (do pure (Next.value (← (do eqGuard .neq t x y (a.eval x) (a.eval y); binOp .neq t (a.eval x) (a.eval y) : Sem Value))) : Sem Next).run X.P w' = _
    rw [hI.evx hx, hI.evx hy]
    refine run_v ?_
    have hgd : (eqGuard .neq t x y (.bool p) (.bool q)).run X.P w' = .ok () w' := rfl
    simp only [Sem.run_bind, hgd, Result.andThen_ok]
    have : (Op.equal t (.bool p) (.bool q)).run X.P w' = .ok (p == q) w' := run_equal_bool hu p q w'
    show (do pure (Value.bool (!(← Op.equal t (.bool p) (.bool q)))) : Sem Value).run X.P w' = _
    simp only [Sem.run_bind, this, Result.andThen_ok, Sem.run_pure]
    cases p <;> cases q <;> rfl, rfl⟩) h

/-! ### Returning -/

def resV (tmps : Array Value) : ResultVar → Sem Value
  | .tmp t => pure (tmps.getD t undef)
  | .cell a t => do loadVar t (← asAddr (tmps.getD a undef))

def AllRes (X : Ctx) (L : AL) (B : BL) : List ResultVar → List CT → Prop
  | [], [] => True
  | v :: vs, c :: cs => (∀ a ρ w, Is X L B a ρ w → ∃ u, (resV a.tmps v).run X.P w = .ok u w ∧ c.p (Sof X B ρ) w u) ∧ AllRes X L B vs cs
  | _, _ => False

def retC : List CT → CT
  | [c] => c
  | cs => .fr (tupT cs)

theorem AllRes.run {rv : List ResultVar} {cs : List CT} (h : AllRes X L B rv cs) {a : Act} {ρ : Nat → Value} {w : World} (hI : Is X L B a ρ w) : ∃ us, (rv.mapM (resV a.tmps)).run X.P w = .ok us w ∧ cells (Sof X B ρ) w cs us := by
  induction rv generalizing cs with
  | nil => cases cs with
    | nil => exact ⟨[], rfl, trivial⟩
    | cons c cs => exact h.elim
  | cons v rv ih => cases cs with
    | nil => exact h.elim
    | cons c cs =>
      obtain ⟨u, h1, h2⟩ := h.1 a ρ w hI
      obtain ⟨us, h3, h4⟩ := ih h.2
      exact ⟨u :: us, by simp only [List.mapM_cons, Sem.run_bind, h1, Result.andThen_ok, h3, Sem.run_pure], h2, h4⟩

theorem Fin.retG {fn : Func} {rv : List ResultVar} {cs : List CT} {R : CT} (hfn : fn.results = rv.toArray) (hr : AllRes X L B rv cs) (hR : R = retC cs) (hb : X.bor = noBor) :
    ∀ a ρ w, Is X L B a ρ w → a.defers = [] ∧ ∃ v, (results fn a.tmps).run X.P w = .ok v w ∧ okPost X R (.returned v) w := fun a ρ w hI => by
  refine ⟨hI.defers, ?_⟩
  obtain ⟨us, h1, h2⟩ := hr.run hI
  have hrun : (results fn a.tmps).run X.P w = .ok (if h : us.toArray.size = 1 then us.toArray[0] else .tuple us.toArray) w := by
    have he : results fn a.tmps = (do let vs ← fn.results.mapM (resV a.tmps); pure (if h : vs.size = 1 then vs[0] else .tuple vs)) := by
      unfold results
      congr 2
    rw [he, hfn, Array.mapM_eq_mapM_toList, ← bind_pure_comp]
    simp only [Sem.run_bind, h1, Result.andThen_ok, Sem.run_pure]
  refine ⟨_, hrun, _, rfl, ?_, ?_⟩
  · have h3 : cells X.S0 w cs us := h2.mono ⟨Nat.le_refl _, fun k _ hk => ⟨hk.1, rfl⟩⟩
    subst hR
    match cs, us, h3 with
    | [], [], _ => exact ⟨[], rfl, trivial⟩
    | [c], [u], h3 => exact h3.1
    | c1 :: c2 :: cs, u1 :: u2 :: us, h3 => exact ⟨u1 :: u2 :: us, by simp, h3⟩
  · have := hI.frame
    rw [hb] at this
    exact ⟨this.os, this.tape, this.output, this.size, fun k hk => this.block k hk (fun h => h)⟩

theorem Fin.ret {fn : Func} {cs : List CT} {R : CT} (rv : List ResultVar) (hfn : fn.results = rv.toArray) (hr : AllRes X L B rv cs) (hR : R = retC cs) (hb : X.bor = noBor) : Fin X L B (fun a w => bodyPost X.P fn (okPost X R) .ret a w) := Fin.retG hfn hr hR hb
theorem Fin.end {fn : Func} {cs : List CT} {R : CT} (rv : List ResultVar) (hfn : fn.results = rv.toArray) (hr : AllRes X L B rv cs) (hR : R = retC cs) (hb : X.bor = noBor) : Fin X L B (fun a w => bodyPost X.P fn (okPost X R) .normal a w) := Fin.retG hfn hr hR hb

theorem AllRes.nil : AllRes X L B [] [] := trivial
theorem AllRes.tmp {s : Nat} {c : CT} {rv : List ResultVar} {cs : List CT} (h : look L s = some (.ct c)) (hr : AllRes X L B rv cs) : AllRes X L B (.tmp s :: rv) (c :: cs) :=
  ⟨fun a ρ w hI => ⟨_, rfl, hI.slot s _ h⟩, hr⟩
theorem AllRes.cellN {s i tt n : Nat} {ds : List CT} {rv : List ResultVar} {cs : List CT} (h : look L s = some (.own i)) (hi : bget B i = some (.box tt ds)) (hT : LdN X.P t n) (hl : ds.length = n) (hr : AllRes X L B rv cs) : AllRes X L B (.cell s t :: rv) (.fr (aggT ds) :: cs) :=
  ⟨fun a ρ w hI => by
    have h1 : a.tmps.getD s undef = ρ i := hI.slot s _ h
    obtain ⟨gb, vs, h2, h3, h4⟩ := (hI.ent i _ hi).1
    refine ⟨.agg vs.toArray, ?_, vs, rfl, h4⟩
    have := hT.run (w := w) (b := gb) (o := 0) (vs := vs) (by rw [h4.length, hl]) (fun j u hu => by rw [Nat.zero_add]; exact raw_cell (vs := vs) h3 (by simp) hu)
    simp only [resV, h1, h2, asAddr, Sem.run_bind, Sem.run_pure, Result.andThen_ok]
    simpa [Instr.loadAt, Instr.sureAddr] using this, hr⟩
theorem AllRes.cell1 {s i tt : Nat} {c : CT} {ds : List CT} {rv : List ResultVar} {cs : List CT} (h : look L s = some (.own i)) (hi : bget B i = some (.box tt (c :: ds))) (hT : Ld1 X.P t) (hr : AllRes X L B rv cs) : AllRes X L B (.cell s t :: rv) (c :: cs) :=
  ⟨fun a ρ w hI => by
    have h1 : a.tmps.getD s undef = ρ i := hI.slot s _ h
    obtain ⟨gb, vs, h2, h3, h4⟩ := (hI.ent i _ hi).1
    obtain ⟨v, h5, h6⟩ := h4.get (i := 0) rfl
    refine ⟨v, ?_, h6⟩
    have := hT.run (w := w) (b := gb) (o := 0) (raw_cell (vs := vs) h3 (by simp) h5)
    simp only [resV, h1, h2, asAddr, Sem.run_bind, Sem.run_pure, Result.andThen_ok]
    simpa [Instr.loadAt, Instr.sureAddr] using this, hr⟩

/-! ### Literals of one element, and appending one element -/

theorem zinit_len {P : Program} {el n bytes : Nat} {zv : Value} (hT : SlcT P t el n bytes zv) (m : Nat) : (zinit zv m).length = m * n := by
  rw [zinit_map]
  simp [flatten_length (k := n) (es := List.replicate m zv.cells.toList) (fun e he => by rw [List.eq_of_mem_replicate he]; simpa using hT.zs), hT.zs]

theorem Ops.lit1 {el bytes : Nat} {zv : Value} {c : CT} (hk : k.mk = true) (hg : gd ops L g = some true) (hT : SlcT X.P t el 1 bytes zv) (hx : ev L x = some (.ct c)) (ho : c.one = true) (hn : Nat.blt d X.n = true)
    (h : Ops X ops r ((d, .ct (.fr (sliceT 1 [[c]]))) :: L) B K) : Ops X ops (.cons ⟨some d, .buildSlice t 1 #[(0, x)], t', pos, af, g⟩ k r) L B K := by
  have hl := zinit_len hT 1
  have e : (zinit zv 1).set 0 c = [c] := by
    match hz : zinit zv 1, hl with
    | [q], _ => rfl
  refine Ops.lit (m := 1) (ps := [(0, x)]) hk hg hT (.one rfl hx ho (by rw [hl]; rfl) .nil) (by decide) hn ?_
  rw [e]; exact h
theorem Ops.litN {el n bytes : Nat} {zv : Value} {ds : List CT} (hk : k.mk = true) (hg : gd ops L g = some true) (hT : SlcT X.P t el n bytes zv) (hx : ev L x = some (.ct (.fr (aggT ds)))) (hl : ds.length = n) (hle : n ≤ 16777216) (hn : Nat.blt d X.n = true)
    (h : Ops X ops r ((d, .ct (.fr (sliceT n [ds]))) :: L) B K) : Ops X ops (.cons ⟨some d, .buildSlice t 1 #[(0, x)], t', pos, af, g⟩ k r) L B K := by
  have hz := zinit_len hT 1
  have e : spl (zinit zv 1) 0 ds = ds := by simp [spl, hl, hz]
  refine Ops.lit (m := 1) (ps := [(0, x)]) hk hg hT (.agg (off := 0) (n := n) (by simp) hx hl (by rw [hz]; simp) .nil) (by omega) hn ?_
  rw [e]
  have e2 : chunk n 1 ds = [ds] := by simp [chunk, ← hl]
  rw [e2]; exact h
theorem Ops.append1 {i el n bytes : Nat} {zv : Value} {cs ds : List CT} (m : Nat) (cs' : List CT) (hg : gd ops L g = some true) (hx : ev L x = some (.own i)) (hi : bget B i = some (.row el n cs)) (hy : ev L y = some (.ct (.fr (sliceT n [ds])))) (hT : SlcT X.P t el n bytes zv)
    (hl : cs.length = m * n) (ho : ones ds = true) (hb : (m + 1) * bytes ≤ 140737488355328) (hmx : m + 1 ≤ 140737488355328) (hcs : cs' = cs ++ ds) (hn : Nat.blt d X.n = true)
    (h : Ops X ops r ((d, .own i) :: killL i L) (bset B i (.row el n cs')) K) : Ops X ops (.cons ⟨some d, .call { callee := .builtin .append, args := #[x, y], argTypes := #[t, t] }, t', pos, af, g⟩ .any r) L B K :=
  Ops.append m cs' hg hx hi hy hT hl (by simpa using ho) (by simpa using hb) (by simpa using hmx) (by simpa using hcs) hn h

/-! ### The same of code -/

theorem St.nilRow {c : Code} {Q : Exit → Act → World → Prop} (dd i : Nat) (e n : Nat) (hd : look L dd = some (.ct (.ex (.slice none 0 0)))) (hN : noN i L = true) (hB : bget B i = none) (h : St X ((dd, .own i) :: L) ((i, .row e n []) :: B) c Q) : St X L B c Q := Fin.nilRow dd i e n hd hN hB h
theorem St.freeze {c : Code} {Q : Exit → Act → World → Prop} (i : Nat) {e : Ent} (T : Ty) (hi : bget B i = some e) (hT : e.frozen T) (hS : ∀ g, X.bor g → X.S0 g) (h : St X (frzL i T L) (bdel B i) c Q) (hf : noFix X i = true := by rfl) : St X L B c Q := Fin.freeze i T hi hT hS h hf
theorem Ops.freeze {l : Pl} (i : Nat) {e : Ent} (T : Ty) (hi : bget B i = some e) (hT : e.frozen T) (hS : ∀ g, X.bor g → X.S0 g) (h : Ops X ops l (frzL i T L) (bdel B i) K) (hf : noFix X i = true := by rfl) : Ops X ops l L B K := Fin.freeze i T hi hT hS h hf
theorem St.dropB {c : Code} {Q : Exit → Act → World → Prop} (i : Nat) (h : St X L (bdel B i) c Q) (hf : noFix X i = true := by rfl) : St X L B c Q := Fin.dropB i h hf
theorem St.fam {c : Code} {Q : Exit → Act → World → Prop} {α : Type} {J : α → Prop} {Lx : α → AL} {Bx : α → BL} (h : ∀ x, J x → St X (Lx x) (Bx x) c Q) (y : α) (hJ : J y) (he : Entails X L B (Lx y) (Bx y)) : St X L B c Q := Fin.fam h y hJ he
theorem St.condP {c : Operand} {x y : Code} {Q : Exit → Act → World → Prop} {p : Prop} [Decidable p] (hc : ev L c = some (.ct (.ex (.bool (decide p))))) (h1 : p → St X L B x Q) (h2 : ¬ p → St X L B y Q) : St X L B (.cond c x y) Q :=
  St.condB hc (fun h => h1 (of_decide_eq_true h)) (fun h => h2 (of_decide_eq_false h))
theorem Ops.splitP {o : Oper} {l : Pl} (d : Nat) {p : Prop} [Decidable p] (hs : look L d = some (.ct (.ex (.bool (decide p))))) (h1 : p → Ops X ops (.cons o k l) ((d, .ct (.ex (.bool true))) :: L) B K) (h2 : ¬ p → Ops X ops (.cons o k l) ((d, .ct (.ex (.bool false))) :: L) B K) : Ops X ops (.cons o k l) L B K :=
  Ops.split d hs (fun h => h1 (of_decide_eq_true h)) (fun h => h2 (of_decide_eq_false h))
theorem Entails.of {L' : AL} {B' : BL} (hB : B = B') (h : subL L L') : Entails X L B L' B' := by subst hB; exact Entails.sub h
theorem St.regionK {id : Nat} {l : List Oper} {Q : Exit → Act → World → Prop} (h : ∀ K, (∀ L' B', Fin X L' B' (fun a w => Q .normal a w) → Fin X L' B' K) → Ops X l.toArray (kind2 l) L B K) : St X L B (.region id l.toArray false) Q := St.region (h _ fun _ _ h => h)
theorem St.drawK {id : Nat} {l : List Oper} {Q : Exit → Act → World → Prop} (hm : X.P.follows .mixedOrders = true) (N : Nat) (ord : Od)
    (hc : (Region.noSelect l.toArray && chk l.toArray N ord l.length (Array.replicate l.length false)) = true)
    (h : ∀ K, (∀ L' B', Fin X L' B' (fun a w => Q .normal a w) → Fin X L' B' K) → Ops X l.toArray (pick l ord) L B K) : St X L B (.region id l.toArray true) Q := St.draw hm N ord hc (h _ fun _ _ h => h)
theorem noBor_sub {S : BSet} : ∀ g, noBor g → S g := fun _ h => h.elim
theorem Ops.keep {l : Pl} (L' : AL) (hs : subL L L') (h : Ops X ops l L' B K) : Ops X ops l L B K := Fin.keep L' hs h


end Go.Own
