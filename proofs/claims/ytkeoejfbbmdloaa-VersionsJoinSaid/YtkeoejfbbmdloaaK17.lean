/-
  More rules: rows that are handed over to a function, rows that are lent to one, and new rows as results.
-/
import Derived.Test.YtkeoejfbbmdloaaK16
namespace Go.Own
open Go.RowKit

variable {X : Ctx} {L : AL} {B : BL} {ops : Array Oper} {K : Act → World → Prop} {r : Pl} {k : Kd}
  {x y z : Operand} {d : Nat} {t t2 t' : TypeId} {pos : String} {af : Array Edge} {g : Option (Nat × Bool)}

/-- The context of a function that was given a row with handle h. -/
abbrev given (P : Program) (n : Nat) (S : BSet) (w : World) (h : Value) : Ctx := { P := P, n := n, S0 := S, w0 := w, bor := fun k => blk h = some k }

/-- Function f takes over a row with cells cs and returns a row with cells D, the same one or a new one. -/
def postT (X : Ctx) (h : Value) (el m : Nat) (D : List CT) : Ending → World → Prop := fun e w' =>
  ∃ v, e = .returned v ∧ (Ent.row el m D).ok (fun k => X.S0 k ∧ blk v ≠ some k) w' v ∧ (blk v = blk h ∨ ∀ g, blk v = some g → X.w0.heap.size ≤ g) ∧ Fr (fun k => blk h = some k) X.w0 w'
def OkT (P : Program) (f : FuncId) (el m : Nat) (cs As D : List CT) : Prop :=
  ∀ (S : BSet) (w : World) (h : Value) (vs : List Value), (∀ k, w.heap.size ≤ k → S k) → (∀ g, blk h = some g → ¬ S g) → (Ent.row el m cs).ok S w h → cells S w As vs →
    Calls P f (h :: vs).toArray w (postT (given P 0 S w h) h el m D)

/-- Function f is lent a row with cells cs, returns R and leaves the cells D in it. -/
def postL (X : Ctx) (h : Value) (el m : Nat) (R : CT) (D : List CT) : Ending → World → Prop := fun e w' =>
  ∃ v, e = .returned v ∧ R.p X.S0 w' v ∧ (Ent.row el m D).ok X.S0 w' h ∧ Fr (fun k => blk h = some k) X.w0 w'
def OkL (P : Program) (f : FuncId) (el m : Nat) (cs As : List CT) (R : CT) (D : List CT) : Prop :=
  ∀ (S : BSet) (w : World) (h : Value) (vs : List Value), (∀ k, w.heap.size ≤ k → S k) → (∀ g, blk h = some g → ¬ S g) → (Ent.row el m cs).ok S w h → cells S w As vs →
    Calls P f (h :: vs).toArray w (postL (given P 0 S w h) h el m R D)

theorem given_is {P : Program} {fn : Func} {n : Nat} {S : BSet} {w : World} {h : Value} {As : List CT} {vs : List Value} {e : Ent} (hn : fn.ntmps = n) (ha : Nat.ble (As.length + 1) n = true) (hS : ∀ k, w.heap.size ≤ k → S k) (hg : ∀ g, blk h = some g → ¬ S g) (ho : e.ok S w h) (hA : cells S w As vs) :
    Is (given P n S w h) ((0, .own 0) :: argL 1 As) [(0, e)] ⟨(h :: vs).toArray ++ Array.replicate (fn.ntmps - (h :: vs).toArray.size) undef, []⟩ (fun _ => h) w := by
  have hl := hA.length
  have hle := Nat.le_of_ble_eq_true ha
  have hSof : ∀ k, S k → Sof (given P n S w h) [(0, e)] (fun _ => h) k := fun k hk => ⟨hk, fun i e' hi hbk => hg k hbk hk⟩
  have hkp : Kp S (Sof (given P n S w h) [(0, e)] (fun _ => h)) w w := ⟨Nat.le_refl _, fun k _ hk => ⟨hSof k hk, rfl⟩⟩
  have hone : ∀ i e', bget [(0, e)] i = some e' → i = 0 ∧ e' = e := fun i e' hi => by
    by_cases h0 : i = 0
    · subst h0; rw [bget_cons_eq] at hi; injection hi with hi; exact ⟨rfl, hi.symm⟩
    · rw [bget_cons_ne _ _ (Ne.symm h0)] at hi; cases hi
  refine ⟨by simp [given, hn]; omega, rfl, fun d s hd => ?_, fun i e' hi => ?_, fun i j e1 e2 hi hj hij => ?_, ⟨rfl, rfl, rfl, Nat.le_refl _, fun _ _ _ => rfl⟩, hS, fun p hp => by cases hp⟩
  · by_cases hd0 : d = 0
    · subst hd0; rw [look_cons_eq] at hd; injection hd with hd; subst hd
      show _ = h
      rw [Array.getD_eq_getD_getElem?, Array.getElem?_append_left (by simp)]; simp
    · rw [look_cons_ne _ _ (Ne.symm hd0)] at hd
      obtain ⟨v, c', h1, h2, rfl, h4⟩ := look_argL hA hd
      have hlt : d - 1 < vs.length := (List.getElem?_eq_some_iff.1 h2).1
      have : ((h :: vs).toArray ++ Array.replicate (fn.ntmps - (h :: vs).toArray.size) undef).getD d undef = v := by
        rw [Array.getD_eq_getD_getElem?, Array.getElem?_append_left (by simp; omega)]
        obtain ⟨d', rfl⟩ : ∃ d', d = d' + 1 := ⟨d - 1, by omega⟩
        simp at h2
        simp [h2]
      show c'.p _ w _
      rw [this]
      exact CT.mono hkp h4
  · obtain ⟨rfl, rfl⟩ := hone i e' hi
    exact ⟨Ent.keep hkp (fun _ _ _ => rfl) ho, fun q hq => .inr hq⟩
  · obtain ⟨rfl, _⟩ := hone i e1 hi
    obtain ⟨rfl, _⟩ := hone j e2 hj
    exact absurd rfl hij

theorem OkT.enter {P : Program} {f : FuncId} {fn : Func} {c : Code} {el m : Nat} {cs As D : List CT} (hf : P.funcs[f]? = some fn) (hb : fn.body = some c) (n : Nat) (hn : fn.ntmps = n) (ha : Nat.ble (As.length + 1) n = true)
    (h : ∀ S w (h0 : Value), St { P := P, n := n, S0 := S, w0 := w, bor := fun k => blk h0 = some k } ((0, .own 0) :: argL 1 As) [(0, .row el m cs)] c (bodyPost P fn (postT { P := P, n := n, S0 := S, w0 := w, bor := fun k => blk h0 = some k } h0 el m D))) : OkT P f el m cs As D :=
  fun S w h0 vs hS hg ho hA => calls_of_wp hf hb (h S w h0 _ (fun _ => h0) w (given_is hn ha hS hg ho hA))
theorem OkL.enter {P : Program} {f : FuncId} {fn : Func} {c : Code} {el m : Nat} {cs As D : List CT} {R : CT} (hf : P.funcs[f]? = some fn) (hb : fn.body = some c) (n : Nat) (hn : fn.ntmps = n) (ha : Nat.ble (As.length + 1) n = true)
    (h : ∀ S w (h0 : Value), St { P := P, n := n, S0 := S, w0 := w, bor := fun k => blk h0 = some k } ((0, .own 0) :: argL 1 As) [(0, .rowx h0 el m cs)] c (bodyPost P fn (postL { P := P, n := n, S0 := S, w0 := w, bor := fun k => blk h0 = some k } h0 el m R D))) : OkL P f el m cs As R D :=
  fun S w h0 vs hS hg ho hA => calls_of_wp hf hb (h S w h0 _ (fun _ => h0) w (given_is (e := .rowx h0 el m cs) hn ha hS hg ⟨rfl, ho⟩ hA))

theorem Fin.retT {P : Program} {n : Nat} {S : BSet} {w0 : World} {h0 : Value} {fn : Func} {s el m : Nat} {D : List CT} (hfn : fn.results = #[.tmp s]) (hs : look L s = some (.own 0)) (hi : bget B 0 = some (.row el m D)) :
    Fin (given P n S w0 h0) L B (fun a w => bodyPost P fn (postT (given P n S w0 h0) h0 el m D) .ret a w) := by
  have key : ∀ a ρ w, Is (given P n S w0 h0) L B a ρ w → a.defers = [] ∧ ∃ v, (results fn a.tmps).run P w = .ok v w ∧ postT (given P n S w0 h0) h0 el m D (.returned v) w := fun a ρ w hI => by
    refine ⟨hI.defers, ?_⟩
    have h1 : a.tmps.getD s undef = ρ 0 := hI.slot s _ hs
    have hrun : (results fn a.tmps).run P w = .ok (ρ 0) w := by
      have he : results fn a.tmps = (do let vs ← fn.results.mapM (resV a.tmps); pure (if h : vs.size = 1 then vs[0] else .tuple vs)) := by
        unfold results
        congr 2
      rw [he, hfn, Array.mapM_eq_mapM_toList, ← bind_pure_comp]
      simp only [List.mapM_cons, List.mapM_nil, resV, h1, Sem.run_bind, Sem.run_pure, Result.andThen_ok]
      rfl
    refine ⟨_, hrun, ρ 0, rfl, Ent.keep ⟨Nat.le_refl _, fun q _ hq => ⟨⟨hq.1, hq.2 0 _ hi⟩, rfl⟩⟩ (fun _ _ _ => rfl) (hI.ent 0 _ hi).1, ?_, hI.frame⟩
    cases e : blk (ρ 0) with
    | none => exact .inr fun g hg => by cases hg
    | some q =>
      rcases (hI.ent 0 _ hi).2 q e with h5 | h5
      · exact .inr fun g hg => by injection hg with hg; subst hg; exact h5
      · exact .inl h5.symm
  exact key

theorem Fin.retLG {P : Program} {n : Nat} {S : BSet} {w0 : World} {h0 : Value} {fn : Func} {el m : Nat} {rv : List ResultVar} {cs D : List CT} {R : CT} (hfn : fn.results = rv.toArray) (hr : AllRes (given P n S w0 h0) L B rv cs) (hR : R = retC cs) (hi : bget B 0 = some (.rowx h0 el m D)) :
    ∀ a ρ w, Is (given P n S w0 h0) L B a ρ w → a.defers = [] ∧ ∃ v, (results fn a.tmps).run P w = .ok v w ∧ postL (given P n S w0 h0) h0 el m R D (.returned v) w := fun a ρ w hI => by
  refine ⟨hI.defers, ?_⟩
  obtain ⟨v, h1, h2⟩ := results_run hfn hr hI
  have hk : Kp (Sof (given P n S w0 h0) B ρ) S w w := ⟨Nat.le_refl _, fun q _ hq => ⟨hq.1, rfl⟩⟩
  obtain ⟨h3, h4⟩ := (hI.ent 0 _ hi).1
  rw [h3] at h4
  exact ⟨v, h1, v, rfl, by rw [hR]; exact CT.mono hk h2, Ent.keep (e := .row el m D) hk (fun _ _ _ => rfl) h4, hI.frame⟩
theorem Fin.retL {P : Program} {n : Nat} {S : BSet} {w0 : World} {h0 : Value} {fn : Func} {el m : Nat} {cs D : List CT} {R : CT} (rv : List ResultVar) (hfn : fn.results = rv.toArray) (hr : AllRes (given P n S w0 h0) L B rv cs) (hR : R = retC cs) (hi : bget B 0 = some (.rowx h0 el m D)) :
    Fin (given P n S w0 h0) L B (fun a w => bodyPost P fn (postL (given P n S w0 h0) h0 el m R D) .ret a w) := Fin.retLG hfn hr hR hi
theorem Fin.endL {P : Program} {n : Nat} {S : BSet} {w0 : World} {h0 : Value} {fn : Func} {el m : Nat} {cs D : List CT} {R : CT} (rv : List ResultVar) (hfn : fn.results = rv.toArray) (hr : AllRes (given P n S w0 h0) L B rv cs) (hR : R = retC cs) (hi : bget B 0 = some (.rowx h0 el m D)) :
    Fin (given P n S w0 h0) L B (fun a w => bodyPost P fn (postL (given P n S w0 h0) h0 el m R D) .normal a w) := Fin.retLG hfn hr hR hi

theorem run_callFn {P : Program} {f : FuncId} {a : Act} {x0 : Operand} {args : List Operand} {tys : Array TypeId} {h : Value} (hgo : InGo P f) (hx : a.eval x0 = h) (w : World) :
    (execOp a.eval ⟨some d, .call { callee := .value (.func f), args := (x0 :: args).toArray, argTypes := tys }, t, pos, af, g⟩).run P w = .ok (.enter f (h :: args.map a.eval).toArray) w := by
  show (do let D ← resolve a.eval { callee := .value (.func f), args := (x0 :: args).toArray, argTypes := tys } t; invoke D.target D.args : Sem Next).run P w = _
  have hf : a.eval (.func f) = .func (.func f) #[] #[] := rfl
  simp only [resolve, hf, Deferred.ofValue, Sem.run_bind, Sem.run_pure, Result.andThen_ok, invoke]
  rw [hgo]
  congr 2
  simp [hx]

/-- A row is handed over. -/
theorem Ops.callT {f : FuncId} {el m i : Nat} {x0 : Operand} {args : List Operand} {tys : Array TypeId} {cs As D : List CT} (hgo : InGo X.P f) (hok : OkT X.P f el m cs As D) (hg : gd ops L g = some true) (hx : ev L x0 = some (.own i)) (hi : bget B i = some (.row el m cs)) (hargs : evs L args = some As) (hn : Nat.blt d X.n = true)
    (h : Ops X ops r ((d, .own i) :: killL i L) (bset B i (.row el m D)) K) : Ops X ops (.cons ⟨some d, .call { callee := .value (.func f), args := (x0 :: args).toArray, argTypes := tys }, t, pos, af, g⟩ .any r) L B K := fun a ρ w hI => by
  show wpO _ _ _ _ _ _
  unfold wpO
  rw [if_pos (gd_spec (o := ⟨some d, _, t, pos, af, g⟩) hI hg)]
  unfold Oper.wp
  have hx1 : a.eval x0 = ρ i := hI.ev hx
  rw [run_callFn hgo hx1 w]
  have hnS : ∀ q, blk (ρ i) = some q → ¬ Sof X B ρ q := fun q hq hs => hs.2 i _ hi hq
  refine Calls.mono (hok (Sof X B ρ) w (ρ i) _ hI.freshS hnS (hI.ent i _ hi).1 (hI.evs hargs)) ?_
  rintro e w' ⟨v, rfl, ⟨n', us, how, hc⟩, hv, hF⟩
  have hbl : ∀ q, q < w.heap.size → blk (ρ i) ≠ some q → w'.heap[q]? = w.heap[q]? := fun q hq hne => hF.block q hq hne
  have hW := (Is.write (v := v) (e' := .row el m (us.map CT.ex)) (hI.killL i) hi hF.os hF.tape hF.output hF.size hbl hv
    (fun S' hk => ⟨n', us, how, cells_ex _⟩) (.inr (noN_killL i L)) (.inr rfl)).bext (bget_bset hi)
  have hi2 : bget (bset B i (.row el m (us.map CT.ex))) i = some (.row el m (us.map CT.ex)) := by rw [bget_bset hi, bget_cons_eq]
  have hR := hW.retype (e' := .row el m D) hi2 (by
    rw [upd_eq]
    refine ⟨n', us, how, hc.mono ⟨Nat.le_refl _, fun q _ hq => ⟨⟨hq.1.1, fun j e' hj hbk => ?_⟩, rfl⟩⟩⟩
    rw [bget_bset hi] at hj
    by_cases hji : j = i
    · subst hji; rw [upd_eq] at hbk; exact hq.2 hbk
    · rw [bget_cons_ne _ _ (Ne.symm hji)] at hj; rw [upd_ne _ _ hji] at hbk; exact hq.1.2 j e' hj hbk) rfl
  rw [bset_bset] at hR
  exact h _ _ w' (hR.put (s := .own i) (lt_of_blt hn) (by show v = upd ρ i v i; rw [upd_eq]))

/-- A row is lent. -/
theorem Ops.callL {f : FuncId} {el m i : Nat} {x0 : Operand} {args : List Operand} {tys : Array TypeId} {cs As D : List CT} {R : CT} (hgo : InGo X.P f) (hok : OkL X.P f el m cs As R D) (hg : gd ops L g = some true) (hx : ev L x0 = some (.own i)) (hi : bget B i = some (.row el m cs)) (hargs : evs L args = some As) (hn : Nat.blt d X.n = true)
    (h : Ops X ops r ((d, .ct R) :: L) (bset B i (.row el m D)) K) : Ops X ops (.cons ⟨some d, .call { callee := .value (.func f), args := (x0 :: args).toArray, argTypes := tys }, t, pos, af, g⟩ .any r) L B K := fun a ρ w hI => by
  show wpO _ _ _ _ _ _
  unfold wpO
  rw [if_pos (gd_spec (o := ⟨some d, _, t, pos, af, g⟩) hI hg)]
  unfold Oper.wp
  have hx1 : a.eval x0 = ρ i := hI.ev hx
  rw [run_callFn hgo hx1 w]
  have hnS : ∀ q, blk (ρ i) = some q → ¬ Sof X B ρ q := fun q hq hs => hs.2 i _ hi hq
  refine Calls.mono (hok (Sof X B ρ) w (ρ i) _ hI.freshS hnS (hI.ent i _ hi).1 (hI.evs hargs)) ?_
  rintro e w' ⟨v, rfl, hv, ⟨n', us, how, hc⟩, hF⟩
  have hbl : ∀ q, q < w.heap.size → blk (ρ i) ≠ some q → w'.heap[q]? = w.heap[q]? := fun q hq hne => hF.block q hq hne
  have hW := (Is.write (v := ρ i) (e' := .row el m (us.map CT.ex)) hI hi hF.os hF.tape hF.output hF.size hbl (.inl rfl)
    (fun S' hk => ⟨n', us, how, cells_ex _⟩) (.inl rfl) (.inr rfl)).bext (bget_bset hi)
  rw [upd_self] at hW
  have hi2 : bget (bset B i (.row el m (us.map CT.ex))) i = some (.row el m (us.map CT.ex)) := by rw [bget_bset hi, bget_cons_eq]
  have hS2 : Sof X (bset B i (.row el m (us.map CT.ex))) ρ = Sof X B ρ := Sof_keys (bset_keys hi)
  have hR := hW.retype (e' := .row el m D) hi2 (by rw [hS2]; exact ⟨n', us, how, hc⟩) rfl
  rw [bset_bset] at hR
  have hS3 : Sof X (bset B i (.row el m D)) ρ = Sof X B ρ := Sof_keys (bset_keys hi)
  exact h _ _ w' (hR.put (s := .ct R) (lt_of_blt hn) (by show R.p _ w' v; rw [hS3]; exact hv))
/-- A row that was lent is lent on. -/
theorem Ops.callLX {f : FuncId} {el m i : Nat} {v0 : Value} {x0 : Operand} {args : List Operand} {tys : Array TypeId} {cs As D : List CT} {R : CT} (hgo : InGo X.P f) (hok : OkL X.P f el m cs As R D) (hg : gd ops L g = some true) (hx : ev L x0 = some (.own i)) (hi : bget B i = some (.rowx v0 el m cs)) (hargs : evs L args = some As) (hn : Nat.blt d X.n = true)
    (h : Ops X ops r ((d, .ct R) :: L) (bset B i (.rowx v0 el m D)) K) : Ops X ops (.cons ⟨some d, .call { callee := .value (.func f), args := (x0 :: args).toArray, argTypes := tys }, t, pos, af, g⟩ .any r) L B K := fun a ρ w hI => by
  show wpO _ _ _ _ _ _
  unfold wpO
  rw [if_pos (gd_spec (o := ⟨some d, _, t, pos, af, g⟩) hI hg)]
  unfold Oper.wp
  have hx1 : a.eval x0 = ρ i := hI.ev hx
  rw [run_callFn hgo hx1 w]
  have hnS : ∀ q, blk (ρ i) = some q → ¬ Sof X B ρ q := fun q hq hs => hs.2 i _ hi hq
  have hv0 := (hI.ent i _ hi).1.1
  refine Calls.mono (hok (Sof X B ρ) w (ρ i) _ hI.freshS hnS (hI.ent i _ hi).1.2 (hI.evs hargs)) ?_
  rintro e w' ⟨v, rfl, hv, ⟨n', us, how, hc⟩, hF⟩
  have hbl : ∀ q, q < w.heap.size → blk (ρ i) ≠ some q → w'.heap[q]? = w.heap[q]? := fun q hq hne => hF.block q hq hne
  have hW := (Is.write (v := ρ i) (e' := .rowx v0 el m (us.map CT.ex)) hI hi hF.os hF.tape hF.output hF.size hbl (.inl rfl)
    (fun S' hk => ⟨hv0, n', us, how, cells_ex _⟩) (.inl rfl) (.inr rfl)).bext (bget_bset hi)
  rw [upd_self] at hW
  have hi2 : bget (bset B i (.rowx v0 el m (us.map CT.ex))) i = some (.rowx v0 el m (us.map CT.ex)) := by rw [bget_bset hi, bget_cons_eq]
  have hS2 : Sof X (bset B i (.rowx v0 el m (us.map CT.ex))) ρ = Sof X B ρ := Sof_keys (bset_keys hi)
  have hR := hW.retype (e' := .rowx v0 el m D) hi2 (by rw [hS2]; exact ⟨hv0, n', us, how, hc⟩) rfl
  rw [bset_bset] at hR
  have hS3 : Sof X (bset B i (.rowx v0 el m D)) ρ = Sof X B ρ := Sof_keys (bset_keys hi)
  exact h _ _ w' (hR.put (s := .ct R) (lt_of_blt hn) (by show R.p _ w' v; rw [hS3]; exact hv))

/-! ### New rows as results -/

def postF (X : Ctx) (el m : Nat) (D : List CT) : Ending → World → Prop := fun e w' =>
  ∃ v, e = .returned v ∧ (Ent.row el m D).ok (fun k => X.S0 k ∧ blk v ≠ some k) w' v ∧ (∀ g, blk v = some g → X.w0.heap.size ≤ g) ∧ Below X.w0.heap.size X.w0 w'
def OkF (P : Program) (f : FuncId) (As : List CT) (el m : Nat) (D : List CT) : Prop :=
  ∀ (S : BSet) (w : World) (vs : List Value), (∀ k, w.heap.size ≤ k → S k) → cells S w As vs →
    Calls P f vs.toArray w (postF { P := P, n := 0, S0 := S, w0 := w, bor := noBor } el m D)
theorem OkF.enter {P : Program} {f : FuncId} {fn : Func} {c : Code} {As : List CT} {el m : Nat} {D : List CT} (hf : P.funcs[f]? = some fn) (hb : fn.body = some c) (n : Nat) (hn : fn.ntmps = n) (ha : Nat.ble As.length n = true)
    (h : ∀ S w, St { P := P, n := n, S0 := S, w0 := w, bor := noBor } (argL 0 As) [] c (bodyPost P fn (postF { P := P, n := n, S0 := S, w0 := w, bor := noBor } el m D))) : OkF P f As el m D := by
  intro S w vs hS hA
  have hl := hA.length
  have hle := Nat.le_of_ble_eq_true ha
  refine calls_of_wp hf hb ?_
  refine h S w _ (fun _ => undef) w ?_
  have hSof : ∀ k, S k → Sof { P := P, n := n, S0 := S, w0 := w, bor := noBor } [] (fun _ => undef) k := fun k hk => ⟨hk, fun i e hi => by cases hi⟩
  refine ⟨by simp [hn]; omega, rfl, fun d s hd => ?_, (fun i e hi => by cases hi), (fun i j e e' hi => by cases hi), ⟨rfl, rfl, rfl, Nat.le_refl _, fun _ _ _ => rfl⟩, hS, (fun p hp => by cases hp)⟩
  obtain ⟨v, c', _, h2, rfl, h4⟩ := look_argL hA hd
  have hlt : d < vs.length := by rw [Nat.sub_zero] at h2; exact (List.getElem?_eq_some_iff.1 h2).1
  have : (vs.toArray ++ Array.replicate (fn.ntmps - vs.toArray.size) undef).getD d undef = v := by
    rw [Array.getD_eq_getD_getElem?, Array.getElem?_append_left (by simpa using hlt)]
    rw [Nat.sub_zero] at h2
    simp [h2]
  show c'.p _ w _
  rw [this]
  exact CT.mono (S := S) ⟨Nat.le_refl _, fun k _ hk => ⟨hSof k hk, rfl⟩⟩ h4

theorem Fin.retF {fn : Func} {s i el m : Nat} {D : List CT} (hfn : fn.results = #[.tmp s]) (hs : look L s = some (.own i)) (hi : bget B i = some (.row el m D)) (hb : X.bor = noBor) : Fin X L B (fun a w => bodyPost X.P fn (postF X el m D) .ret a w) := by
  have key : ∀ a ρ w, Is X L B a ρ w → a.defers = [] ∧ ∃ v, (results fn a.tmps).run X.P w = .ok v w ∧ postF X el m D (.returned v) w := fun a ρ w hI => by
    refine ⟨hI.defers, ?_⟩
    have h1 : a.tmps.getD s undef = ρ i := hI.slot s _ hs
    have hrun : (results fn a.tmps).run X.P w = .ok (ρ i) w := by
      have he : results fn a.tmps = (do let vs ← fn.results.mapM (resV a.tmps); pure (if h : vs.size = 1 then vs[0] else .tuple vs)) := by
        unfold results
        congr 2
      rw [he, hfn, Array.mapM_eq_mapM_toList, ← bind_pure_comp]
      simp only [List.mapM_cons, List.mapM_nil, resV, h1, Sem.run_bind, Sem.run_pure, Result.andThen_ok]
      rfl
    refine ⟨_, hrun, ρ i, rfl, Ent.keep ⟨Nat.le_refl _, fun q _ hq => ⟨⟨hq.1, hq.2 i _ hi⟩, rfl⟩⟩ (fun _ _ _ => rfl) (hI.ent i _ hi).1, fun q hq => ?_, ?_⟩
    · rcases (hI.ent i _ hi).2 q hq with h5 | h5
      · exact h5
      · rw [hb] at h5; exact h5.elim
    · have := hI.frame
      rw [hb] at this
      exact ⟨this.os, this.tape, this.output, this.size, fun k hk => this.block k hk (fun h => h)⟩
  exact key

theorem Ops.callFr (i : Nat) {f : FuncId} {el m : Nat} {args : List Operand} {tys : Array TypeId} {As D : List CT} (hgo : InGo X.P f) (hok : OkF X.P f As el m D) (hg : gd ops L g = some true) (hargs : evs L args = some As) (hk : k.mk = true) (hN : noN i L = true) (hB : bget B i = none) (hn : Nat.blt d X.n = true)
    (h : Ops X ops r ((d, .own i) :: L) ((i, .row el m D) :: B) K) : Ops X ops (.cons ⟨some d, .call { callee := .value (.func f), args := args.toArray, argTypes := tys }, t, pos, af, g⟩ k r) L B K := fun a ρ w hI => by
  refine wpX_makes k hk ?_
  unfold wpO
  rw [if_pos (gd_spec (o := ⟨some d, _, t, pos, af, g⟩) hI hg)]
  unfold Oper.wp
  have hrun : (execOp a.eval ⟨some d, .call { callee := .value (.func f), args := args.toArray, argTypes := tys }, t, pos, af, g⟩).run X.P w = .ok (.enter f (args.map a.eval).toArray) w := by
    show (do let D ← resolve a.eval { callee := .value (.func f), args := args.toArray, argTypes := tys } t; invoke D.target D.args : Sem Next).run X.P w = _
    have hf : a.eval (.func f) = .func (.func f) #[] #[] := rfl
    simp only [resolve, hf, Deferred.ofValue, Sem.run_bind, Sem.run_pure, Result.andThen_ok, invoke]
    rw [hgo]
    congr 2
    simp
  rw [hrun]
  refine Calls.mono (hok (Sof X B ρ) w _ hI.freshS (hI.evs hargs)) ?_
  rintro e w' ⟨v, rfl, ⟨n', us, how, hc⟩, h1, hb⟩
  have hW := hI.new (v := v) (e := .row el m (us.map CT.ex)) hN hB hb h1 (fun S' _ => ⟨n', us, how, cells_ex _⟩)
  have hR := hW.retype (i := i) (e' := .row el m D) (bget_cons_eq ..) (by
    rw [upd_eq]
    refine ⟨n', us, how, hc.mono ⟨Nat.le_refl _, fun q _ hq => ⟨⟨hq.1.1, fun j e' hj hbk => ?_⟩, rfl⟩⟩⟩
    by_cases hji : j = i
    · subst hji; rw [upd_eq] at hbk; exact hq.2 hbk
    · rw [bget_cons_ne _ _ (Ne.symm hji)] at hj; rw [upd_ne _ _ hji] at hbk; exact hq.1.2 j e' hj hbk) rfl
  have hbs : bset ((i, Ent.row el m (us.map CT.ex)) :: B) i (.row el m D) = (i, .row el m D) :: B := by simp only [bset, Nat.beq_refl]
  rw [hbs] at hR
  exact ⟨hb, h _ _ w' (hR.put (s := .own i) (lt_of_blt hn) (by show _ = upd ρ i _ i; rw [upd_eq]))⟩

/-! ### Reading a row whose handle is known -/

theorem Ops.lenX {el n i e : Nat} {v0 : Value} {cs : List CT} (m : Nat) (hg : gd ops L g = some true) (hx : ev L x = some (.own i)) (hi : bget B i = some (.rowx v0 e n cs)) (hp : 0 < n) (hl : cs.length = m * n) (hu : X.P.underlying t = some (.slice el)) (hn : Nat.blt d X.n = true) (h : Ops X ops r ((d, .ct (.ex (.int .i64 m))) :: L) B K) :
    Ops X ops (.cons ⟨some d, .call { callee := .builtin .len, args := #[x], argTypes := #[t] }, t', pos, af, g⟩ k r) L B K :=
  Ops.val (s := .ct (.ex (.int .i64 m))) hg rfl hn (fun a ρ w hI => by
    have h1 : a.eval x = ρ i := hI.ev hx
    obtain ⟨ad, c, h2⟩ := row_len (hI.ent i _ hi).1.2 hp hl
    refine ⟨_, fun w' _ => run_builtin (args := [x]) ?_, rfl⟩
    intro _
    simp only [List.map_cons, List.map_nil, h1, h2]
    exact run_lenSlice hu _ _ _ _ _) h
theorem Ops.idxX {el n bytes i e : Nat} {v0 : Value} {zv : Value} {kk : IntKind} {j : Int} {cs : List CT} (m : Nat) (hg : gd ops L g = some true) (hx : ev L x = some (.own i)) (hi : bget B i = some (.rowx v0 e n cs)) (hl : cs.length = m * n) (hy : ev L y = some (.ct (.ex (.int kk j)))) (hT : SlcT X.P t el n bytes zv) (h0 : 0 ≤ j) (hj : j < m)
    (hn : Nat.blt d X.n = true) (h : Ops X ops r ((d, .loc i (j.toNat * n)) :: L) B K) : Ops X ops (.cons ⟨some d, .indexAddr t x y, t', pos, af, g⟩ k r) L B K :=
  Ops.val (s := .loc i (j.toNat * n)) hg rfl hn (fun a ρ w hI => by
    have h1 : a.eval x = ρ i := hI.ev hx
    obtain ⟨nf, hi2, hs, _⟩ := hT.inf
    obtain ⟨n', vs, how, hc⟩ := (hI.ent i _ hi).1.2
    have hl' := hc.length
    rw [how.1, hl] at hl'
    have : n' = m := Nat.eq_of_mul_eq_mul_right hT.pos hl'
    subst this
    rcases how.2 with ⟨h2, h3⟩ | ⟨gb, cap, cur, h2, _⟩
    · omega
    · refine ⟨.pointer (some ⟨gb, j.toNat * n, none⟩), fun w' _ => ?_, gb, by rw [h2]; rfl, rfl⟩
      show (do pure (Next.value (← Instr.indexAt t (a.eval x) (a.eval y))) : Sem Next).run X.P w' = _
      rw [h1, h2, hI.evx hy]
      refine run_v ?_
      rw [run_index hT.und hi2 h0 (by omega), hs, Nat.zero_add]) h

end Go.Own
