/-
  More rules: contracts of functions that are lent a variable, or return a new one; orders in which an operation may write; rows whose handle lies in a variable.
-/
import Derived.Test.YtkeoejfbbmdloaaK12
namespace Go.Own
open Go.RowKit

variable {X : Ctx} {L : AL} {B : BL} {ops : Array Oper} {K : Act → World → Prop} {r : Pl} {k : Kd}
  {x y z : Operand} {d : Nat} {t t2 t' : TypeId} {pos : String} {af : Array Edge} {g : Option (Nat × Bool)}

abbrev ptrV (g : Nat) : Value := .pointer (some ⟨g, 0, none⟩)

/-! ### A variable that is lent -/

/-- Called with a pointer to a variable with cells cs and with arguments As, function f returns a result R q and leaves the cells D q in the variable, for some q of J; nothing else that was there changes. -/
def OkB (P : Program) (f : FuncId) (t : TypeId) (cs As : List CT) {α : Type} (J : α → Prop) (R : α → CT) (D : α → List CT) : Prop :=
  ∀ (S : BSet) (w : World) (g : Nat) (us vs : List Value), (∀ k, w.heap.size ≤ k → S k) → ¬ S g → w.heap[g]? = some (.cells us.toArray t (0, 0)) → cells S w cs us → cells S w As vs →
    Calls P f (ptrV g :: vs).toArray w (fun e w' => ∃ v q, e = .returned v ∧ J q ∧ (R q).p S w' v ∧ (∃ us' : List Value, w'.heap[g]? = some (.cells us'.toArray t (0, 0)) ∧ cells S w' (D q) us') ∧ Fr (fun k => k = g) w w')

abbrev lent (P : Program) (n : Nat) (S : BSet) (w : World) (g : Nat) : Ctx := { P := P, n := n, S0 := S, w0 := w, bor := fun k => k = g, fix := [(0, ptrV g)] }

def postB (X : Ctx) (g : Nat) (t : TypeId) {α : Type} (J : α → Prop) (R : α → CT) (D : α → List CT) : Ending → World → Prop :=
  fun e w' => ∃ v q, e = .returned v ∧ J q ∧ (R q).p X.S0 w' v ∧ (∃ us' : List Value, w'.heap[g]? = some (.cells us'.toArray t (0, 0)) ∧ cells X.S0 w' (D q) us') ∧ Fr (fun k => k = g) X.w0 w'

theorem OkB.enter {P : Program} {f : FuncId} {fn : Func} {c : Code} {t : TypeId} {cs As : List CT} {α : Type} {J : α → Prop} {R : α → CT} {D : α → List CT} (hf : P.funcs[f]? = some fn) (hb : fn.body = some c) (n : Nat) (hn : fn.ntmps = n) (ha : Nat.ble (As.length + 1) n = true)
    (h : ∀ S w g, St { P := P, n := n, S0 := S, w0 := w, bor := fun k => k = g, fix := [(0, ptrV g)] } ((0, .own 0) :: argL 1 As) [(0, .box t cs)] c (bodyPost P fn (postB { P := P, n := n, S0 := S, w0 := w, bor := fun k => k = g, fix := [(0, ptrV g)] } g t J R D))) : OkB P f t cs As J R D := by
  intro S w gb us vs hS hg hh hU hA
  have hl := hA.length
  have hle := Nat.le_of_ble_eq_true ha
  refine calls_of_wp hf hb ?_
  refine h S w gb _ (fun _ => ptrV gb) w ?_
  have hSof : ∀ k, S k → Sof (lent P n S w gb) [(0, .box t cs)] (fun _ => ptrV gb) k := fun k hk => ⟨hk, fun i e hi hbk => by
    injection hbk with hbk
    have : gb = k := hbk
    subst this; exact hg hk⟩
  have hkp : Kp S (Sof (lent P n S w gb) [(0, .box t cs)] (fun _ => ptrV gb)) w w := ⟨Nat.le_refl _, fun k _ hk => ⟨hSof k hk, rfl⟩⟩
  have hone : ∀ i e, bget [(0, Ent.box t cs)] i = some e → i = 0 ∧ e = .box t cs := fun i e hi => by
    by_cases h0 : i = 0
    · subst h0; rw [bget_cons_eq] at hi; injection hi with hi; exact ⟨rfl, hi.symm⟩
    · rw [bget_cons_ne _ _ (Ne.symm h0)] at hi; cases hi
  refine ⟨by simp [lent, hn]; omega, rfl, fun d s hd => ?_, fun i e hi => ?_, fun i j e e' hi hj hij => ?_, ⟨rfl, rfl, rfl, Nat.le_refl _, fun _ _ _ => rfl⟩, hS, fun p hp => ?_⟩
  · by_cases hd0 : d = 0
    · subst hd0; rw [look_cons_eq] at hd; injection hd with hd; subst hd
      show _ = ptrV gb
      rw [Array.getD_eq_getD_getElem?, Array.getElem?_append_left (by simp)]; simp
    · rw [look_cons_ne _ _ (Ne.symm hd0)] at hd
      obtain ⟨v, c', h1, h2, rfl, h4⟩ := look_argL hA hd
      have hlt : d - 1 < vs.length := (List.getElem?_eq_some_iff.1 h2).1
      have : ((ptrV gb :: vs).toArray ++ Array.replicate (fn.ntmps - (ptrV gb :: vs).toArray.size) undef).getD d undef = v := by
        rw [Array.getD_eq_getD_getElem?, Array.getElem?_append_left (by simp; omega)]
        obtain ⟨d', rfl⟩ : ∃ d', d = d' + 1 := ⟨d - 1, by omega⟩
        simp at h2
        simp [h2]
      show c'.p _ w _
      rw [this]
      exact CT.mono hkp h4
  · obtain ⟨rfl, rfl⟩ := hone i e hi
    exact ⟨⟨gb, us, rfl, hh, hU.mono hkp⟩, fun q hq => .inr (by injection hq with hq; exact hq.symm)⟩
  · obtain ⟨rfl, _⟩ := hone i e hi
    obtain ⟨rfl, _⟩ := hone j e' hj
    exact absurd rfl hij
  · have : p = (0, ptrV gb) := by simpa [lent] using hp
    subst this
    exact ⟨rfl, rfl⟩

theorem results_run {fn : Func} {rv : List ResultVar} {cs : List CT} (hfn : fn.results = rv.toArray) (hr : AllRes X L B rv cs) {a : Act} {ρ : Nat → Value} {w : World} (hI : Is X L B a ρ w) :
    ∃ v, (results fn a.tmps).run X.P w = .ok v w ∧ (retC cs).p (Sof X B ρ) w v := by
  obtain ⟨us, h1, h2⟩ := hr.run hI
  have hrun : (results fn a.tmps).run X.P w = .ok (if h : us.toArray.size = 1 then us.toArray[0] else .tuple us.toArray) w := by
    have he : results fn a.tmps = (do let vs ← fn.results.mapM (resV a.tmps); pure (if h : vs.size = 1 then vs[0] else .tuple vs)) := by
      unfold results
      congr 2
    rw [he, hfn, Array.mapM_eq_mapM_toList, ← bind_pure_comp]
    simp only [Sem.run_bind, h1, Result.andThen_ok, Sem.run_pure]
  refine ⟨_, hrun, ?_⟩
  match cs, us, h2 with
  | [], [], _ => exact ⟨[], rfl, trivial⟩
  | [c], [u], h3 => exact h3.1
  | c1 :: c2 :: cs, u1 :: u2 :: us, h3 => exact ⟨u1 :: u2 :: us, by simp, h3⟩

theorem Fin.retBG {P : Program} {n : Nat} {S : BSet} {w0 : World} {gb : Nat} {fn : Func} {rv : List ResultVar} {cs : List CT} {α : Type} {J : α → Prop} {R : α → CT} {D : α → List CT} (q : α) (hfn : fn.results = rv.toArray) (hr : AllRes (lent P n S w0 gb) L B rv cs) (hR : R q = retC cs) (hB : bget B 0 = some (.box t (D q))) (hJ : J q) :
    ∀ a ρ w, Is (lent P n S w0 gb) L B a ρ w → a.defers = [] ∧ ∃ v, (results fn a.tmps).run P w = .ok v w ∧ postB (lent P n S w0 gb) gb t J R D (.returned v) w := fun a ρ w hI => by
  refine ⟨hI.defers, ?_⟩
  obtain ⟨v, h1, h2⟩ := results_run hfn hr hI
  refine ⟨v, h1, v, q, rfl, hJ, ?_, ?_, ?_⟩
  · rw [hR]; exact CT.mono ⟨Nat.le_refl _, fun k _ hk => ⟨hk.1, rfl⟩⟩ h2
  · obtain ⟨g', us, h3, h4, h5⟩ := (hI.ent 0 _ hB).1
    have h6 : ρ 0 = ptrV gb := (hI.fixd (0, ptrV gb) (List.mem_cons_self ..)).2
    rw [h6] at h3
    have h7 : gb = g' := by injection h3 with h3; injection h3 with h3; injection h3
    subst h7
    exact ⟨us, h4, h5.mono ⟨Nat.le_refl _, fun k _ hk => ⟨hk.1, rfl⟩⟩⟩
  · exact hI.frame

theorem Fin.retB {P : Program} {n : Nat} {S : BSet} {w0 : World} {gb : Nat} {fn : Func} {cs : List CT} {α : Type} {J : α → Prop} {R : α → CT} {D : α → List CT} (q : α) (rv : List ResultVar) (hfn : fn.results = rv.toArray) (hr : AllRes (lent P n S w0 gb) L B rv cs) (hR : R q = retC cs) (hB : bget B 0 = some (.box t (D q))) (hJ : J q) :
    Fin (lent P n S w0 gb) L B (fun a w => bodyPost P fn (postB (lent P n S w0 gb) gb t J R D) .ret a w) := Fin.retBG q hfn hr hR hB hJ
theorem Fin.endB {P : Program} {n : Nat} {S : BSet} {w0 : World} {gb : Nat} {fn : Func} {cs : List CT} {α : Type} {J : α → Prop} {R : α → CT} {D : α → List CT} (q : α) (rv : List ResultVar) (hfn : fn.results = rv.toArray) (hr : AllRes (lent P n S w0 gb) L B rv cs) (hR : R q = retC cs) (hB : bget B 0 = some (.box t (D q))) (hJ : J q) :
    Fin (lent P n S w0 gb) L B (fun a w => bodyPost P fn (postB (lent P n S w0 gb) gb t J R D) .normal a w) := Fin.retBG q hfn hr hR hB hJ

theorem Sof_keys {B B' : BL} {ρ : Nat → Value} (h : ∀ j, (bget B' j).isSome = (bget B j).isSome) : Sof X B' ρ = Sof X B ρ := by
  have key : ∀ {B B' : BL}, (∀ j, (bget B' j).isSome = (bget B j).isSome) → ∀ k, Sof X B ρ k → Sof X B' ρ k := fun {B B'} h k hs => ⟨hs.1, fun j e' hj => by
    have h1 := h j
    rw [hj] at h1
    cases e : bget B j with
    | none => rw [e] at h1; cases h1
    | some e1 => exact hs.2 j e1 e⟩
  funext k
  exact propext ⟨key (fun j => (h j).symm) k, key h k⟩

theorem bset_bset (B : BL) (i : Nat) (e e' : Ent) : bset (bset B i e) i e' = bset B i e' := by
  induction B with
  | nil => rfl
  | cons p B ih =>
    obtain ⟨j, f⟩ := p
    by_cases hj : j = i
    · subst hj; simp only [bset, Nat.beq_refl]
    · simp only [bset, beq_ne hj, ih]

theorem bset_keys {B : BL} {i : Nat} {e e' : Ent} (hi : bget B i = some e) (j : Nat) : (bget (bset B i e') j).isSome = (bget B j).isSome := by
  rw [bget_bset hi]
  by_cases hji : j = i
  · subst hji; rw [bget_cons_eq, hi]; rfl
  · rw [bget_cons_ne _ _ (Ne.symm hji)]

/-- An entry is told in other words. -/
theorem Is.retype {a : Act} {ρ : Nat → Value} {w : World} (h : Is X L B a ρ w) {i : Nat} {e e' : Ent} (hi : bget B i = some e) (ho : e'.ok (Sof X B ρ) w (ρ i)) (hb : isBx (some e) = isBx (some e')) : Is X L (bset B i e') a ρ w := by
  have hS : Sof X (bset B i e') ρ = Sof X B ρ := Sof_keys (bset_keys hi)
  have hget : ∀ j e1, bget (bset B i e') j = some e1 → (j = i ∧ e1 = e') ∨ bget B j = some e1 := fun j e1 hj => by
    rw [bget_bset hi] at hj
    by_cases hji : j = i
    · subst hji; rw [bget_cons_eq] at hj; injection hj with hj; exact .inl ⟨rfl, hj.symm⟩
    · rw [bget_cons_ne _ _ (Ne.symm hji)] at hj; exact .inr hj
  have hold : ∀ j e1, bget (bset B i e') j = some e1 → ∃ e2, bget B j = some e2 := fun j e1 hj => by
    rcases hget j e1 hj with ⟨rfl, _⟩ | h1
    · exact ⟨e, hi⟩
    · exact ⟨e1, h1⟩
  refine ⟨h.size, h.defers, ?_, ?_, ?_, h.frame, h.fresh, ?_⟩
  · rw [hS]; exact h.slot
  · rw [hS]; intro j e1 hj
    rcases hget j e1 hj with ⟨rfl, rfl⟩ | h1
    · exact ⟨ho, (h.ent j e hi).2⟩
    · exact h.ent j e1 h1
  · intro p q e1 e2 hp hq hpq
    obtain ⟨f1, hf1⟩ := hold p e1 hp
    obtain ⟨f2, hf2⟩ := hold q e2 hq
    exact h.apart p q f1 f2 hf1 hf2 hpq
  · intro p hp
    obtain ⟨h1, h2⟩ := h.fixd p hp
    refine ⟨?_, h2⟩
    rw [bget_bset hi]
    by_cases hpi : p.1 = i
    · rw [hpi, bget_cons_eq, ← hb, ← hi, ← hpi]; exact h1
    · rw [bget_cons_ne _ _ (Ne.symm hpi)]; exact h1

theorem Ops.callB {f : FuncId} {tt i : Nat} {x0 : Operand} {args : List Operand} {tys : Array TypeId} {cs As : List CT} {α : Type} {J : α → Prop} {R : α → CT} {D : α → List CT} (hgo : InGo X.P f) (hok : OkB X.P f tt cs As J R D) (hg : gd ops L g = some true) (hx : ev L x0 = some (.own i)) (hi : bget B i = some (.box tt cs)) (hargs : evs L args = some As) (hn : Nat.blt d X.n = true)
    (h : ∀ q, J q → Ops X ops r ((d, .ct (R q)) :: L) (bset B i (.box tt (D q))) K) : Ops X ops (.cons ⟨some d, .call { callee := .value (.func f), args := (x0 :: args).toArray, argTypes := tys }, t, pos, af, g⟩ .any r) L B K := fun a ρ w hI => by
  show wpO _ _ _ _ _ _
  unfold wpO
  rw [if_pos (gd_spec (o := ⟨some d, _, t, pos, af, g⟩) hI hg)]
  unfold Oper.wp
  have hx1 : a.eval x0 = ρ i := hI.ev hx
  obtain ⟨gb, us, h1, h2, h3⟩ := (hI.ent i _ hi).1
  have hrun : (execOp a.eval ⟨some d, .call { callee := .value (.func f), args := (x0 :: args).toArray, argTypes := tys }, t, pos, af, g⟩).run X.P w = .ok (.enter f (ptrV gb :: args.map a.eval).toArray) w := by
    show (do let D ← resolve a.eval { callee := .value (.func f), args := (x0 :: args).toArray, argTypes := tys } t; invoke D.target D.args : Sem Next).run X.P w = _
    have hf : a.eval (.func f) = .func (.func f) #[] #[] := rfl
    simp only [resolve, hf, Deferred.ofValue, Sem.run_bind, Sem.run_pure, Result.andThen_ok, invoke]
    rw [hgo]
    congr 2
    simp [hx1, h1]
  rw [hrun]
  have hnS : ¬ Sof X B ρ gb := fun hs => hs.2 i _ hi (by rw [h1]; rfl)
  refine Calls.mono (hok (Sof X B ρ) w gb us _ hI.freshS hnS h2 h3 (hI.evs hargs)) ?_
  rintro e w' ⟨v, q, rfl, hJ, hv, ⟨us', h4, h5⟩, hF⟩
  have hbl : ∀ k, k < w.heap.size → blk (ρ i) ≠ some k → w'.heap[k]? = w.heap[k]? := fun k hk hne => hF.block k hk (fun e => hne (by rw [h1, e]; rfl))
  have hW := (Is.write (v := ρ i) (e' := .box tt (us'.map CT.ex)) hI hi hF.os hF.tape hF.output hF.size hbl (.inl rfl)
    (fun S' hk => ⟨gb, us', h1, h4, cells_ex _⟩) (.inl rfl) (.inl ⟨rfl, rfl⟩)).bext (bget_bset hi)
  rw [upd_self] at hW
  have hi2 : bget (bset B i (.box tt (us'.map CT.ex))) i = some (.box tt (us'.map CT.ex)) := by rw [bget_bset hi, bget_cons_eq]
  have hS2 : Sof X (bset B i (.box tt (us'.map CT.ex))) ρ = Sof X B ρ := Sof_keys (bset_keys hi)
  have hR := hW.retype (e' := .box tt (D q)) hi2 (by rw [hS2]; exact ⟨gb, us', h1, h4, h5⟩) rfl
  have hbb : bset (bset B i (.box tt (us'.map CT.ex))) i (.box tt (D q)) = bset B i (.box tt (D q)) := bset_bset _ _ _ _
  rw [hbb] at hR
  have hS3 : Sof X (bset B i (.box tt (D q))) ρ = Sof X B ρ := Sof_keys (bset_keys hi)
  exact h q hJ _ _ w' (hR.put (s := .ct (R q)) (lt_of_blt hn) (by show (R q).p _ w' v; rw [hS3]; exact hv))

end Go.Own
