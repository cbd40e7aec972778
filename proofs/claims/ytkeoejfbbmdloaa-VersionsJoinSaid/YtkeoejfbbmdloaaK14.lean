/-
  More rules: contracts of functions that return a new variable; orders in which operations write; rows whose handle lies in a variable.
-/
import Derived.Test.YtkeoejfbbmdloaaK13
namespace Go.Own
open Go.RowKit

variable {X : Ctx} {L : AL} {B : BL} {ops : Array Oper} {K : Act → World → Prop} {r : Pl} {k : Kd}
  {x y z : Operand} {d : Nat} {t t2 t' : TypeId} {pos : String} {af : Array Edge} {g : Option (Nat × Bool)}

/-! ### A new variable as a result -/

def postN (X : Ctx) (t : TypeId) (D : List CT) : Ending → World → Prop := fun e w' =>
  ∃ (g : Nat) (us : List Value), e = .returned (ptrV g) ∧ X.w0.heap.size ≤ g ∧ w'.heap[g]? = some (.cells us.toArray t (0, 0)) ∧ cells (fun k => X.S0 k ∧ k ≠ g) w' D us ∧ Below X.w0.heap.size X.w0 w'

def OkN (P : Program) (f : FuncId) (As : List CT) (t : TypeId) (D : List CT) : Prop :=
  ∀ (S : BSet) (w : World) (vs : List Value), (∀ k, w.heap.size ≤ k → S k) → cells S w As vs →
    Calls P f vs.toArray w (postN { P := P, n := 0, S0 := S, w0 := w, bor := noBor } t D)

theorem OkN.enter {P : Program} {f : FuncId} {fn : Func} {c : Code} {As : List CT} {t : TypeId} {D : List CT} (hf : P.funcs[f]? = some fn) (hb : fn.body = some c) (n : Nat) (hn : fn.ntmps = n) (ha : Nat.ble As.length n = true)
    (h : ∀ S w, St { P := P, n := n, S0 := S, w0 := w, bor := noBor } (argL 0 As) [] c (bodyPost P fn (postN { P := P, n := n, S0 := S, w0 := w, bor := noBor } t D))) : OkN P f As t D := by
  intro S w vs hS hA
  have hl := hA.length
  have hle := Nat.le_of_ble_eq_true ha
  refine calls_of_wp hf hb ?_
  refine h S w _ (fun _ => undef) w ?_
  have hSof : ∀ k, S k → Sof { P := P, n := n, S0 := S, w0 := w, bor := noBor } [] (fun _ => undef) k := fun k hk => ⟨hk, fun i e hi => by cases hi⟩
  refine ⟨by simp [hn]; omega, rfl, fun d s hd => ?_, (fun i e hi => by cases hi), (fun i j e e' hi => by cases hi), ⟨rfl, rfl, rfl, Nat.le_refl _, fun _ _ _ => rfl⟩, hS, (fun p hp => by cases hp)⟩
  obtain ⟨v, c', _, h2, rfl, h4⟩ := look_argL hA hd
  have hlt : d < vs.length := by rw [Nat.sub_zero] at h2; exact (List.getElem?_eq_some_iff.1 h2).1
  have : (vs.toArray ++ Array.replicate (fn.ntmps - vs.toArray.size) undef).getD d undef = v := by
    rw [Array.getD_eq_getD_getElem?, Array.getElem?_append_left (by simpa using hlt)]
    rw [Nat.sub_zero] at h2
    simp [h2]
  show c'.p _ w _
  rw [this]
  exact CT.mono (S := S) ⟨Nat.le_refl _, fun k _ hk => ⟨hSof k hk, rfl⟩⟩ h4

theorem Fin.retNG {fn : Func} {s i : Nat} {D : List CT} (hfn : fn.results = #[.tmp s]) (hs : look L s = some (.own i)) (hi : bget B i = some (.box t D)) (hb : X.bor = noBor) :
    ∀ a ρ w, Is X L B a ρ w → a.defers = [] ∧ ∃ v, (results fn a.tmps).run X.P w = .ok v w ∧ postN X t D (.returned v) w := fun a ρ w hI => by
  refine ⟨hI.defers, ?_⟩
  have h1 : a.tmps.getD s undef = ρ i := hI.slot s _ hs
  obtain ⟨gb, us, h2, h3, h4⟩ := (hI.ent i _ hi).1
  have hrun : (results fn a.tmps).run X.P w = .ok (ρ i) w := by
    have he : results fn a.tmps = (do let vs ← fn.results.mapM (resV a.tmps); pure (if h : vs.size = 1 then vs[0] else .tuple vs)) := by
      unfold results
      congr 2
    rw [he, hfn, Array.mapM_eq_mapM_toList, ← bind_pure_comp]
    simp only [List.mapM_cons, List.mapM_nil, resV, h1, Sem.run_bind, Sem.run_pure, Result.andThen_ok]
    rfl
  refine ⟨_, hrun, gb, us, by rw [h2], ?_, h3, h4.mono ⟨Nat.le_refl _, fun q _ hq => ⟨⟨hq.1, fun e => hq.2 i _ hi (by rw [h2, e]; rfl)⟩, rfl⟩⟩, ?_⟩
  · rcases (hI.ent i _ hi).2 gb (by rw [h2]; rfl) with h5 | h5
    · exact h5
    · rw [hb] at h5; exact h5.elim
  · have := hI.frame
    rw [hb] at this
    exact ⟨this.os, this.tape, this.output, this.size, fun k hk => this.block k hk (fun h => h)⟩
theorem Fin.retN {fn : Func} {s i : Nat} {D : List CT} (hfn : fn.results = #[.tmp s]) (hs : look L s = some (.own i)) (hi : bget B i = some (.box t D)) (hb : X.bor = noBor) : Fin X L B (fun a w => bodyPost X.P fn (postN X t D) .ret a w) := Fin.retNG hfn hs hi hb

theorem Ops.callN (i : Nat) {f : FuncId} {tt : Nat} {args : List Operand} {tys : Array TypeId} {As D : List CT} (hgo : InGo X.P f) (hok : OkN X.P f As tt D) (hg : gd ops L g = some true) (hargs : evs L args = some As) (hk : k.mk = true) (hN : noN i L = true) (hB : bget B i = none) (hn : Nat.blt d X.n = true)
    (h : Ops X ops r ((d, .own i) :: L) ((i, .box tt D) :: B) K) : Ops X ops (.cons ⟨some d, .call { callee := .value (.func f), args := args.toArray, argTypes := tys }, t, pos, af, g⟩ k r) L B K := fun a ρ w hI => by
  refine wpX_makes k hk ?_
  unfold wpO
  rw [if_pos (gd_spec (o := ⟨some d, _, t, pos, af, g⟩) hI hg)]
  unfold Oper.wp
  have hrun : (execOp a.eval ⟨some d, .call { callee := .value (.func f), args := args.toArray, argTypes := tys }, t, pos, af, g⟩).run X.P w = .ok (.enter f (args.map a.eval).toArray) w := by
    show (do let D ← resolve a.eval { callee := .value (.func f), args := args.toArray, argTypes := tys } t; invoke D.target D.args : Sem Next).run X.P w = _
    have hf : a.eval (.func f) = .func (.func f) #[] #[] := rfl
    simp only [resolve, hf, Deferred.ofValue, Sem.run_bind, Sem.run_pure, Result.andThen_ok, invoke]
    rw [hgo]
    congr 2
    simp
  rw [hrun]
  refine Calls.mono (hok (Sof X B ρ) w _ hI.freshS (hI.evs hargs)) ?_
  rintro e w' ⟨gb, us, rfl, h1, h2, h3, hb⟩
  have hW := hI.new (v := ptrV gb) (e := .box tt (us.map CT.ex)) hN hB hb (fun q hq => by injection hq with hq; have : gb = q := hq; subst this; exact h1) (fun S' _ => ⟨gb, us, rfl, h2, cells_ex _⟩)
  have hR := hW.retype (i := i) (e' := .box tt D) (bget_cons_eq ..) (by
    rw [upd_eq]
    refine ⟨gb, us, rfl, h2, h3.mono ⟨Nat.le_refl _, fun q _ hq => ⟨⟨hq.1.1, fun j e' hj hbk => ?_⟩, rfl⟩⟩⟩
    by_cases hji : j = i
    · subst hji; rw [upd_eq] at hbk; injection hbk with hbk; exact hq.2 hbk.symm
    · rw [bget_cons_ne _ _ (Ne.symm hji)] at hj; rw [upd_ne _ _ hji] at hbk; exact hq.1.2 j e' hj hbk) rfl
  have hbs : bset ((i, Ent.box tt (us.map CT.ex)) :: B) i (.box tt D) = (i, .box tt D) :: B := by simp only [bset, Nat.beq_refl]
  rw [hbs] at hR
  exact ⟨hb, h _ _ w' (hR.put (s := .own i) (lt_of_blt hn) (by show _ = upd ρ i _ i; rw [upd_eq]))⟩

/-! ### Orders -/

inductive OdA where
  | lin (o : Od)
  | p (i : Nat) (r : OdA)
  | a (i : Nat) (r : OdA)
  | fk (i : Nat) (r : OdA) (j : Nat) (s : OdA)

def wpA (P : Program) (l : List Oper) (K : Act → World → Prop) : OdA → Act → World → Prop
  | .lin o, a, w => wpX P l.toArray K (pick l o) a w
  | .p i r, a, w => ∃ v, Yields P l.toArray (nth l i) v a ∧ wpA P l K r (a.put (nth l i).dst v) w
  | .a i r, a, w => wpO P l.toArray (fun a' w' => wpA P l K r a' w') (nth l i) a w
  | .fk i r j s, a, w => wpO P l.toArray (fun a' w' => wpA P l K r a' w') (nth l i) a w ∧ wpO P l.toArray (fun a' w' => wpA P l K s a' w') (nth l j) a w

def chkA (ops : Array Oper) : OdA → Nat → Array Bool → Bool
  | .lin o, n, listed => chk ops 0 o n listed
  | _, 0, _ => false
  | .p i r, n + 1, listed => (Region.ready .any ops listed).contains i && Region.free .any ops listed i && chkA ops r n (listed.setIfInBounds i true)
  | .a i r, n + 1, listed => Region.ready .any ops listed == [i] && chkA ops r n (listed.setIfInBounds i true)
  | .fk i r j s, n + 1, listed => Region.ready .any ops listed == [i, j] && chkA ops r n (listed.setIfInBounds i true) && chkA ops s n (listed.setIfInBounds j true)

theorem anyB_of_A {P : Program} {l : List Oper} {K : Act → World → Prop} (hs : Region.noSelect l.toArray = true) :
    ∀ (ord : OdA) (fuel : Nat) (listed : Array Bool) (a : Act) (w : World), chkA l.toArray ord fuel listed = true →
      wpA P l K ord a w → wpAnyB P l.toArray K 0 fuel listed a w := by
  have hidx : ∀ {listed : Array Bool} {i : Nat}, i ∈ Region.ready .any l.toArray listed → l.toArray[i]? = some (nth l i) := fun h => nth_eq (by simpa using ready_lt h)
  intro ord
  induction ord with
  | lin o => intro fuel listed a w hc h; exact anyB_of_X hs o fuel listed a w (by simpa [chkA] using hc) h
  | p i r ih =>
    intro fuel listed a w hc h
    cases fuel with
    | zero => simp [chkA] at hc
    | succ f =>
      simp only [chkA, Bool.and_eq_true] at hc
      obtain ⟨⟨hr, hfr⟩, hc2⟩ := hc
      have hr' : i ∈ Region.ready .any l.toArray listed := by simpa using hr
      obtain ⟨v, hy, h⟩ := h
      exact wpAnyB_firstP (hidx hr') (Region.noSelect_spec hs) f listed a w (Region.free_spec (hidx hr') hfr) hr' hy (ih f _ _ _ hc2 h)
  | a i r ih =>
    intro fuel listed a w hc h
    cases fuel with
    | zero => simp [chkA] at hc
    | succ f =>
      simp only [chkA, Bool.and_eq_true, beq_iff_eq] at hc
      obtain ⟨hr, hc2⟩ := hc
      refine ⟨(fun h0 => by rw [hr] at h0; cases h0), fun j hj => ?_⟩
      have hi := hidx hj
      rw [hr] at hj
      obtain rfl : j = i := by simpa using hj
      exact wpOp_of_O hi (wpO_mono h fun a' w' h' => ⟨fun h0 => absurd h0 (Nat.not_lt_zero _), ih f _ _ _ hc2 h'⟩)
  | fk i r j s ih1 ih2 =>
    intro fuel listed a w hc h
    cases fuel with
    | zero => simp [chkA] at hc
    | succ f =>
      simp only [chkA, Bool.and_eq_true, beq_iff_eq] at hc
      obtain ⟨⟨hr, hc1⟩, hc2⟩ := hc
      refine ⟨(fun h0 => by rw [hr] at h0; cases h0), fun q hq => ?_⟩
      have hi := hidx hq
      rw [hr] at hq
      rcases List.mem_cons.1 hq with rfl | hq
      · exact wpOp_of_O hi (wpO_mono h.1 fun a' w' h' => ⟨fun h0 => absurd h0 (Nat.not_lt_zero _), ih1 f _ _ _ hc1 h'⟩)
      · obtain rfl : q = j := by simpa using hq
        exact wpOp_of_O hi (wpO_mono h.2 fun a' w' h' => ⟨fun h0 => absurd h0 (Nat.not_lt_zero _), ih2 f _ _ _ hc2 h'⟩)

theorem St.drawA {id : Nat} {l : List Oper} {Q : Exit → Act → World → Prop} (hm : X.P.follows .mixedOrders = true) (ord : OdA)
    (hc : (Region.noSelect l.toArray && chkA l.toArray ord l.length (Array.replicate l.length false)) = true)
    (h : ∀ K, (∀ L' B', Fin X L' B' (fun a w => Q .normal a w) → Fin X L' B' K) → Fin X L B (wpA X.P l K ord)) : St X L B (.region id l.toArray true) Q := by
  intro a ρ w hI
  simp only [Bool.and_eq_true] at hc
  obtain ⟨hs, hc⟩ := hc
  have h1 := h _ (fun _ _ h => h) a ρ _ (hI.below (Below.drewOnce w))
  have h2 := anyB_of_A hs ord l.length _ a _ hc h1
  have h3 := wpAny_of_B _ _ _ _ h2
  refine Go.wp_mono (wp_region_any (Q := only fun a w => Q .normal a w) hm ?_) ?_
  · simpa using h3
  · intro e a w h
    cases e with
    | normal => exact h
    | exit _ => exact h.elim
    | goto _ => exact h.elim
    | ret => exact h.elim
    | panic _ => exact h.elim
    | outgrown => exact h.elim

theorem Fin.lin {l : List Oper} {o : Od} (h : Ops X l.toArray (pick l o) L B K) : Fin X L B (wpA X.P l K (.lin o)) := h
theorem Fin.p {l : List Oper} {i : Nat} {r : OdA} (h : Ops X l.toArray (.cons (nth l i) .pure .nil) L B (wpA X.P l K r)) : Fin X L B (wpA X.P l K (.p i r)) := h
theorem Fin.a {l : List Oper} {i : Nat} {r : OdA} (h : Ops X l.toArray (.cons (nth l i) .any .nil) L B (wpA X.P l K r)) : Fin X L B (wpA X.P l K (.a i r)) := h
theorem Fin.fk {l : List Oper} {i j : Nat} {r s : OdA} (h1 : Ops X l.toArray (.cons (nth l i) .any .nil) L B (wpA X.P l K r)) (h2 : Ops X l.toArray (.cons (nth l j) .any .nil) L B (wpA X.P l K s)) : Fin X L B (wpA X.P l K (.fk i r j s)) :=
  fun a ρ w hI => ⟨h1 a ρ w hI, h2 a ρ w hI⟩

/-! ### Rows whose handle is known -/

theorem Is.slotx {a : Act} {ρ : Nat → Value} {w : World} (h : Is X L B a ρ w) {dd : Nat} {s : Sl} (hs : s.p (Sof X B ρ) ρ w (a.tmps.getD dd undef)) : Is X ((dd, s) :: L) B a ρ w := h.sub fun d s' hd => by
  by_cases hdd : dd = d
  · subst hdd; rw [look_cons_eq] at hd; injection hd with hd; subst hd; exact hs
  · rw [look_cons_ne _ _ hdd] at hd; exact h.slot d s' hd

theorem row_oneCell {S : BSet} {w : World} {v : Value} {e n : Nat} {cs : List CT} (h : (Ent.row e n cs).ok S w v) : v.oneCell' = true := by
  obtain ⟨_, _, how, _⟩ := h
  rcases how.2 with ⟨rfl, _⟩ | ⟨g', cap, cur, rfl, _⟩ <;> rfl

theorem Fin.name (dd i : Nat) {el n : Nat} {cs : List CT} (hd : look L dd = some (.own i)) (hi : bget B i = some (.row el n cs)) (h : ∀ v : Value, v.oneCell' = true → Fin X ((dd, .ct (.ex v)) :: L) (bset B i (.rowx v el n cs)) K) : Fin X L B K := fun a ρ w hI => by
  have h1 : a.tmps.getD dd undef = ρ i := hI.slot dd _ hd
  have h2 := (hI.ent i _ hi).1
  exact h (ρ i) (row_oneCell h2) a ρ w ((hI.retype (e' := .rowx (ρ i) el n cs) hi ⟨rfl, h2⟩ rfl).slotx (s := .ct (.ex (ρ i))) h1)
theorem Ops.name {l : Pl} (dd i : Nat) {el n : Nat} {cs : List CT} (hd : look L dd = some (.own i)) (hi : bget B i = some (.row el n cs)) (h : ∀ v : Value, v.oneCell' = true → Ops X ops l ((dd, .ct (.ex v)) :: L) (bset B i (.rowx v el n cs)) K) : Ops X ops l L B K := Fin.name dd i hd hi h

theorem Fin.link (dd i : Nat) {v : Value} {el n : Nat} {cs : List CT} (hd : look L dd = some (.ct (.ex v))) (hi : bget B i = some (.rowx v el n cs)) (h : Fin X ((dd, .own i) :: L) (bset B i (.row el n cs)) K) : Fin X L B K := fun a ρ w hI => by
  have h1 : a.tmps.getD dd undef = v := hI.slot dd _ hd
  obtain ⟨h2, h3⟩ := (hI.ent i _ hi).1
  exact h a ρ w ((hI.retype (e' := .row el n cs) hi h3 rfl).slotx (s := .own i) (h1.trans h2.symm))
theorem Ops.link {l : Pl} (dd i : Nat) {v : Value} {el n : Nat} {cs : List CT} (hd : look L dd = some (.ct (.ex v))) (hi : bget B i = some (.rowx v el n cs)) (h : Ops X ops l ((dd, .own i) :: L) (bset B i (.row el n cs)) K) : Ops X ops l L B K := Fin.link dd i hd hi h

/-- The nil slice as a row. -/
theorem Fin.nilX (i : Nat) (el n : Nat) (hN : noN i L = true) (hB : bget B i = none) (h : Fin X L ((i, .rowx (.slice none 0 0) el n []) :: B) K) : Fin X L B K := fun a ρ w hI =>
  h a _ w (hI.new (v := .slice none 0 0) (e := .rowx (.slice none 0 0) el n []) hN hB (Below.refl _ _) (fun g hg => by cases hg) (fun S' _ => ⟨rfl, 0, [], World.ownsRow_nil _ _ _ _, trivial⟩))
theorem St.nilX {c : Code} {Q : Exit → Act → World → Prop} (i : Nat) (el n : Nat) (hN : noN i L = true) (hB : bget B i = none) (h : St X L ((i, .rowx (.slice none 0 0) el n []) :: B) c Q) : St X L B c Q := Fin.nilX i el n hN hB h

theorem Is.frozen_val {a : Act} {ρ : Nat → Value} {w : World} (h : Is X L B a ρ w) {j : Nat} {e e2 : Ent} {T : Ty} (hi : bget B j = some e) (hT : e2.frozen T) (he : e2.ok (Sof X B ρ) w (ρ j)) (hS : ∀ g, blk (ρ j) = some g → X.bor g → X.S0 g) : T.p (Sof X (bdel B j) ρ) w (ρ j) := by
  refine T.mono (S := fun k => Sof X B ρ k ∨ blk (ρ j) = some k) ⟨Nat.le_refl _, fun k _ hs => ⟨?_, rfl⟩⟩ (Ent.frozen_p hT (Ent.keep ⟨Nat.le_refl _, fun k _ hs => ⟨.inl hs, rfl⟩⟩ (fun _ _ _ => rfl) he) (fun g hg => .inr hg))
  rcases hs with hs | hs
  · exact ⟨hs.1, fun p e' hp => hs.2 p e' (by
      by_cases hpj : p = j
      · subst hpj; rw [bget_bdel_eq] at hp; cases hp
      · rwa [bget_bdel_ne _ hpj] at hp)⟩
  · refine ⟨?_, fun p e' hp hb' => ?_⟩
    · rcases (h.ent j e hi).2 k hs with h3 | h3
      · exact h.fresh k h3
      · exact hS k hs h3
    · by_cases hpj : p = j
      · subst hpj; rw [bget_bdel_eq] at hp; cases hp
      · rw [bget_bdel_ne _ hpj] at hp
        exact h.apart j p e e' hi hp (Ne.symm hpj) k hs hb'

/-- What is lent is not entry i. -/
def okFix (X : Ctx) (i : Nat) : Prop := ∀ g, X.bor g → X.S0 g ∨ ∃ p ∈ X.fix, p.1 ≠ i ∧ blk p.2 = some g
theorem okFix_lent {P : Program} {n : Nat} {S : BSet} {w : World} {g i : Nat} (hi : Nat.beq 0 i = false) : okFix (lent P n S w g) i := fun q hq => .inr ⟨(0, ptrV g), List.mem_cons_self .., fun e => by rw [← e] at hi; simp at hi, by
  have : q = g := hq
  rw [this]; rfl⟩
theorem Is.okFix {a : Act} {ρ : Nat → Value} {w : World} (h : Is X L B a ρ w) {i : Nat} {e : Ent} (hi : bget B i = some e) (hS : Own.okFix X i) : ∀ g, blk (ρ i) = some g → X.bor g → X.S0 g := fun g hg hb => by
  rcases hS g hb with h1 | ⟨p, hp, hpi, hpb⟩
  · exact h1
  · obtain ⟨h2, h3⟩ := h.fixd p hp
    cases e1 : bget B p.1 with
    | none => rw [e1] at h2; cases h2
    | some e2 => exact absurd (by rw [h3]; exact hpb) (h.apart i p.1 e e2 hi e1 (Ne.symm hpi) g hg)

theorem Fin.frz (i : Nat) {e : Ent} (T : Ty) (hi : bget B i = some e) (hT : e.frozen T) (hS : Own.okFix X i) (h : Fin X (frzL i T L) (bdel B i) K) (hf : noFix X i = true := by rfl) : Fin X L B K := fun a ρ w hI => by
  have hv := hI.frozen_val hi hT (hI.ent i e hi).1 (hI.okFix hi hS)
  have hD := hI.dropB i hf
  refine h a ρ w (hD.sub fun d s hd => ?_)
  rw [look_frzL] at hd
  cases e1 : look L d with
  | none => rw [e1] at hd; cases hd
  | some t =>
    rw [e1] at hd; injection hd with hd; subst hd
    have h1 := hD.slot d t e1
    cases t with
    | own j =>
      simp only [Own.frz]
      cases hb : Nat.beq j i with
      | false => exact h1
      | true =>
        have := Nat.eq_of_beq_eq_true hb
        subst this
        have h2 : a.tmps.getD d undef = ρ j := h1
        show T.p _ w (a.tmps.getD d undef)
        rw [h2]; exact hv
    | ct c => exact h1
    | loc j o => exact h1
    | any => trivial
theorem St.frz {c : Code} {Q : Exit → Act → World → Prop} (i : Nat) {e : Ent} (T : Ty) (hi : bget B i = some e) (hT : e.frozen T) (hS : Own.okFix X i) (h : St X (frzL i T L) (bdel B i) c Q) (hf : noFix X i = true := by rfl) : St X L B c Q := Fin.frz i T hi hT hS h hf

/-- A row whose handle lies in a variable is frozen there. -/
theorem Fin.frzX (i j o : Nat) {v : Value} {el n tt : Nat} {cs ds : List CT} (T : Ty) (hi : bget B i = some (.rowx v el n cs)) (hj : bget (bdel B i) j = some (.box tt ds)) (ho : ds[o]? = some (.ex v)) (hT : (Ent.row el n cs).frozen T) (hS : okFix X i)
    (h : Fin X L (bset (bdel B i) j (.box tt (ds.set o (.fr T)))) K) (hf : noFix X i = true := by rfl) : Fin X L B K := fun a ρ w hI => by
  obtain ⟨h2, h3⟩ := (hI.ent i _ hi).1
  have hv : T.p (Sof X (bdel B i) ρ) w (ρ i) := hI.frozen_val hi hT h3 (hI.okFix hi hS)
  rw [h2] at hv
  have hD := hI.dropB i hf
  obtain ⟨gb, us, h4, h5, h6⟩ := (hD.ent j _ hj).1
  have hu : us[o]? = some v := by
    obtain ⟨u, hu1, hu2⟩ := h6.get ho
    have : u = v := hu2
    rw [← this]; exact hu1
  have hset : us.set o v = us := by
    apply List.ext_getElem?
    intro q
    rw [List.getElem?_set]
    split
    · rename_i hq; subst hq
      rw [hu]
      split
      · rfl
      · rename_i hlt; exact absurd (List.getElem?_eq_some_iff.1 hu).1 hlt
    · rfl
  refine h a ρ w (hD.retype hj ⟨gb, us, h4, h5, ?_⟩ rfl)
  rw [← hset]; exact h6.set hv
theorem St.frzX {c : Code} {Q : Exit → Act → World → Prop} (i j o : Nat) {v : Value} {el n tt : Nat} {cs ds : List CT} (T : Ty) (hi : bget B i = some (.rowx v el n cs)) (hj : bget (bdel B i) j = some (.box tt ds)) (ho : ds[o]? = some (.ex v)) (hT : (Ent.row el n cs).frozen T) (hS : okFix X i)
    (h : St X L (bset (bdel B i) j (.box tt (ds.set o (.fr T)))) c Q) (hf : noFix X i = true := by rfl) : St X L B c Q := Fin.frzX i j o T hi hj ho hT hS h hf

end Go.Own
