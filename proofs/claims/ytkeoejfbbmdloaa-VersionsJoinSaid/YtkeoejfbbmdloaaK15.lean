/-
  More rules: regions that draw their order and hold calls that change what is lent.
-/
import Derived.Test.YtkeoejfbbmdloaaK14
namespace Go.Own
open Go.RowKit

variable {X : Ctx} {L : AL} {B : BL} {K : Act → World → Prop}
  {x y z : Operand} {d : Nat} {t t2 t' : TypeId} {pos : String} {af : Array Edge} {g : Option (Nat × Bool)}

theorem Fr.refl (bb : BSet) (w : World) : Fr bb w w := ⟨rfl, rfl, rfl, Nat.le_refl _, fun _ _ _ => rfl⟩
theorem Fr.trans {bb : BSet} {w1 w2 w3 : World} (h : Fr bb w1 w2) (h' : Fr bb w2 w3) : Fr bb w1 w3 :=
  ⟨h'.os.trans h.os, h'.tape.trans h.tape, h'.output.trans h.output, Nat.le_trans h.size h'.size, fun k hk hn => (h'.block k (Nat.lt_of_lt_of_le hk h.size) hn).trans (h.block k hk hn)⟩
theorem Fr.of_below {bb : BSet} {w w' : World} (h : Below w.heap.size w w') : Fr bb w w' := ⟨h.os, h.tape, h.output, h.size, fun k hk _ => h.block k hk⟩

def wpR (P : Program) (l : List Oper) (bb : BSet) (K : Act → World → Prop) : Od → Act → World → Prop
  | .done, a, w => K a w
  | .p i r, a, w => ∃ v, Yields P l.toArray (nth l i) v a ∧ wpR P l bb K r (a.put (nth l i).dst v) w
  | .f i r, a, w => ∃ v, YieldsIf P l.toArray (fun w' => Fr bb w w') (nth l i) v a ∧ wpR P l bb K r (a.put (nth l i).dst v) w
  | .m i r, a, w => wpO P l.toArray (fun a' w' => Fr bb w w' ∧ wpR P l bb K r a' w') (nth l i) a w
  | .a i r, a, w => wpO P l.toArray (fun a' w' => wpR P l bb K r a' w') (nth l i) a w
  | .fork i r j s, a, w => wpO P l.toArray (fun a' w' => Fr bb w w' ∧ wpR P l bb K r a' w') (nth l i) a w ∧ wpO P l.toArray (fun a' w' => Fr bb w w' ∧ wpR P l bb K s a' w') (nth l j) a w

def wpAnyR (P : Program) (ops : Array Oper) (bb : BSet) (K : Act → World → Prop) (N : Nat) : Nat → Array Bool → Act → World → Prop
  | 0, listed, a, w => Region.ready .any ops listed = [] ∧ K a w
  | fuel + 1, listed, a, w => (Region.ready .any ops listed = [] → K a w) ∧
      ∀ i ∈ Region.ready .any ops listed, wpOp P ops (only K) i (fun a' w' => (i < N → Fr bb w w') ∧ wpAnyR P ops bb K N fuel (listed.setIfInBounds i true) a' w') a w

theorem wpAny_of_R {P : Program} {ops : Array Oper} {bb : BSet} {K : Act → World → Prop} {N : Nat} : ∀ (fuel : Nat) (listed : Array Bool) (a : Act) (w : World), wpAnyR P ops bb K N fuel listed a w → wpAny P .any ops (only K) fuel listed a w
  | 0, _, _, _, h => h
  | fuel + 1, _, _, _, h => ⟨h.1, fun i hi => wpOp_mono (fun a' w' h' => wpAny_of_R fuel _ a' w' h'.2) (h.2 i hi)⟩

theorem yields_laterR {P : Program} {ops : Array Oper} {bb : BSet} {o : Oper} {v : Value} {a : Act} {w w' : World} (hy : YieldsIf P ops (fun x => Fr bb w x) o v a) (hb : Fr bb w w') :
    YieldsIf P ops (fun x => Fr bb w' x) o v a :=
  hy.imp (fun ⟨h1, h2⟩ => ⟨h1, fun x hx => h2 x (hb.trans hx)⟩) id

theorem wpAnyR_first {P : Program} {ops : Array Oper} {bb : BSet} {K : Act → World → Prop} {N : Nat} {i : Nat} {oi : Oper} {v : Value} (hi : ops[i]? = some oi)
    (hsel : ∀ (j : Nat) (o : Oper) cs b, ops[j]? = some o → o.op ≠ .select cs b)
    (htail : ∀ (j : Nat) (oj : Oper), ops[j]? = some oj → N ≤ j → ∃ e ∈ oj.after, Region.binds .any e = true ∧ e.on = i) :
    ∀ (fuel : Nat) (listed : Array Bool) (a : Act) (w : World),
      (∀ j oj, ops[j]? = some oj → j ≠ i → listed.getD j true = false → (∀ e ∈ oj.after, Region.binds .any e = true → e.on ≠ i) → oi.apart ops oj = true) →
      i ∈ Region.ready .any ops listed → YieldsIf P ops (fun x => Fr bb w x) oi v a →
      wpAnyR P ops bb K N fuel (listed.setIfInBounds i true) (a.put oi.dst v) w → wpAnyR P ops bb K N (fuel + 1) listed a w := by
  intro fuel
  induction fuel with
  | zero =>
    intro listed a w _ hr hy H
    refine ⟨fun h => (by rw [h] at hr; cases hr), fun j hj => ?_⟩
    by_cases hji : j = i
    · subst hji; exact hy.wpOp hi (Fr.refl _ _) ⟨fun _ => Fr.refl _ _, H⟩
    · have := ready_mono hj hji
      rw [H.1] at this
      cases this
  | succ fuel ih =>
    intro listed a w hfree hr hy H
    refine ⟨fun h => (by rw [h] at hr; cases hr), fun j hj => ?_⟩
    by_cases hji : j = i
    · subst hji; exact hy.wpOp hi (Fr.refl _ _) ⟨fun _ => Fr.refl _ _, H⟩
    · have h1 := H.2 j (ready_mono hj hji)
      obtain ⟨hjun, oj, hoj, hall⟩ := mem_ready.1 hj
      have hnot : ∀ e ∈ oj.after, Region.binds .any e = true → e.on ≠ i := fun e he hb heq => by
        have h1 := hall e he hb
        have h0 := (mem_ready.1 hr).1
        rw [heq] at h1
        rcases Nat.lt_or_ge i listed.size with h' | h'
        · simp [h'] at h0 h1; rw [h0] at h1; cases h1
        · simp [Array.getElem?_eq_none h'] at h1
      have hjN : j < N := by
        rcases Nat.lt_or_ge j N with h' | h'
        · exact h'
        · obtain ⟨e, he, hb, heq⟩ := htail j oj hoj h'
          exact absurd heq (hnot e he hb)
      have h2 := wpOp_putIf hoj (hfree j oj hoj hji hjun hnot) (fun cs b => hsel i oi cs b hi) (fun cs b => hsel j oj cs b hoj) (fun _ _ _ h => h.elim) hy h1
      have hfree' : ∀ k ok, ops[k]? = some ok → k ≠ i → (listed.setIfInBounds j true).getD k true = false →
          (∀ e ∈ ok.after, Region.binds .any e = true → e.on ≠ i) → oi.apart ops ok = true := fun k ok hk hki hun hno => by
        refine hfree k ok hk hki ?_ hno
        by_cases hjk : j = k
        · subst hjk; exact hjun
        · rw [getD_set_ne true hjk] at hun; exact hun
      refine wpOp_mono (fun a' w' h3 => ⟨h3.2.1, ih (listed.setIfInBounds j true) a' w' hfree' (ready_mono hr (Ne.symm hji)) (yields_laterR h3.1 (h3.2.1 hjN)) ?_⟩) h2
      rw [Array.setIfInBounds_comm _ _ hji]
      exact h3.2.2

theorem wpAnyR_firstP {P : Program} {ops : Array Oper} {bb : BSet} {K : Act → World → Prop} {N : Nat} {i : Nat} {oi : Oper} {v : Value} (hi : ops[i]? = some oi)
    (hsel : ∀ (j : Nat) (o : Oper) cs b, ops[j]? = some o → o.op ≠ .select cs b) :
    ∀ (fuel : Nat) (listed : Array Bool) (a : Act) (w : World),
      (∀ j oj, ops[j]? = some oj → j ≠ i → listed.getD j true = false → (∀ e ∈ oj.after, Region.binds .any e = true → e.on ≠ i) → oi.apart ops oj = true) →
      i ∈ Region.ready .any ops listed → Yields P ops oi v a →
      wpAnyR P ops bb K N fuel (listed.setIfInBounds i true) (a.put oi.dst v) w → wpAnyR P ops bb K N (fuel + 1) listed a w := by
  intro fuel
  induction fuel with
  | zero =>
    intro listed a w _ hr hy H
    refine ⟨fun h => (by rw [h] at hr; cases hr), fun j hj => ?_⟩
    by_cases hji : j = i
    · subst hji; exact hy.wpOp hi ⟨fun _ => Fr.refl _ _, H⟩
    · have := ready_mono hj hji
      rw [H.1] at this
      cases this
  | succ fuel ih =>
    intro listed a w hfree hr hy H
    refine ⟨fun h => (by rw [h] at hr; cases hr), fun j hj => ?_⟩
    by_cases hji : j = i
    · subst hji; exact hy.wpOp hi ⟨fun _ => Fr.refl _ _, H⟩
    · have h1 := H.2 j (ready_mono hj hji)
      obtain ⟨hjun, oj, hoj, hall⟩ := mem_ready.1 hj
      have hnot : ∀ e ∈ oj.after, Region.binds .any e = true → e.on ≠ i := fun e he hb heq => by
        have h1 := hall e he hb
        have h0 := (mem_ready.1 hr).1
        rw [heq] at h1
        rcases Nat.lt_or_ge i listed.size with h' | h'
        · simp [h'] at h0 h1; rw [h0] at h1; cases h1
        · simp [Array.getElem?_eq_none h'] at h1
      have h2 := wpOp_put hoj (hfree j oj hoj hji hjun hnot) (fun cs b => hsel i oi cs b hi) (fun cs b => hsel j oj cs b hoj) (fun _ _ _ h => h.elim) hy h1
      have hfree' : ∀ k ok, ops[k]? = some ok → k ≠ i → (listed.setIfInBounds j true).getD k true = false →
          (∀ e ∈ ok.after, Region.binds .any e = true → e.on ≠ i) → oi.apart ops ok = true := fun k ok hk hki hun hno => by
        refine hfree k ok hk hki ?_ hno
        by_cases hjk : j = k
        · subst hjk; exact hjun
        · rw [getD_set_ne true hjk] at hun; exact hun
      refine wpOp_mono (fun a' w' h3 => ⟨h3.2.1, ih (listed.setIfInBounds j true) a' w' hfree' (ready_mono hr (Ne.symm hji)) h3.1 ?_⟩) h2
      rw [Array.setIfInBounds_comm _ _ hji]
      exact h3.2.2

theorem anyR_of {P : Program} {l : List Oper} {bb : BSet} {K : Act → World → Prop} {N : Nat} (hs : Region.noSelect l.toArray = true) :
    ∀ (ord : Od) (fuel : Nat) (listed : Array Bool) (a : Act) (w : World), chk l.toArray N ord fuel listed = true →
      wpR P l bb K ord a w → wpAnyR P l.toArray bb K N fuel listed a w := by
  have hidx : ∀ {listed : Array Bool} {i : Nat}, i ∈ Region.ready .any l.toArray listed → l.toArray[i]? = some (nth l i) := fun h => nth_eq (by simpa using ready_lt h)
  intro ord
  induction ord with
  | done =>
    intro fuel listed a w hc h
    have hr : Region.ready .any l.toArray listed = [] := by
      cases fuel <;> simpa [chk] using hc
    cases fuel with
    | zero => exact ⟨hr, h⟩
    | succ f => exact ⟨fun _ => h, by rw [hr]; simp⟩
  | p i r ih =>
    intro fuel listed a w hc h
    cases fuel with
    | zero => simp [chk] at hc
    | succ f =>
      simp only [chk, Bool.and_eq_true] at hc
      obtain ⟨⟨hr, hfr⟩, hc2⟩ := hc
      have hr' : i ∈ Region.ready .any l.toArray listed := by simpa using hr
      obtain ⟨v, hy, h⟩ := h
      exact wpAnyR_firstP (hidx hr') (Region.noSelect_spec hs) f listed a w (Region.free_spec (hidx hr') hfr) hr' hy (ih f _ _ _ hc2 h)
  | f i r ih =>
    intro fuel listed a w hc h
    cases fuel with
    | zero => simp [chk] at hc
    | succ f =>
      simp only [chk, Bool.and_eq_true] at hc
      obtain ⟨⟨⟨hr, hfr⟩, hw⟩, hc2⟩ := hc
      have hr' : i ∈ Region.ready .any l.toArray listed := by simpa using hr
      obtain ⟨v, hy, h⟩ := h
      exact wpAnyR_first (hidx hr') (Region.noSelect_spec hs) (waits_spec hw) f listed a w (Region.free_spec (hidx hr') hfr) hr' hy (ih f _ _ _ hc2 h)
  | m i r ih =>
    intro fuel listed a w hc h
    cases fuel with
    | zero => simp [chk] at hc
    | succ f =>
      simp only [chk, Bool.and_eq_true, beq_iff_eq] at hc
      obtain ⟨⟨hr, _⟩, hc2⟩ := hc
      refine ⟨(fun h0 => by rw [hr] at h0; cases h0), fun j hj => ?_⟩
      have hi := hidx hj
      rw [hr] at hj
      obtain rfl : j = i := by simpa using hj
      exact wpOp_of_O hi (wpO_mono h fun a' w' h' => ⟨fun _ => h'.1, ih f _ _ _ hc2 h'.2⟩)
  | a i r ih =>
    intro fuel listed a w hc h
    cases fuel with
    | zero => simp [chk] at hc
    | succ f =>
      simp only [chk, Bool.and_eq_true, beq_iff_eq, Bool.not_eq_true'] at hc
      obtain ⟨⟨hr, hN⟩, hc2⟩ := hc
      refine ⟨(fun h0 => by rw [hr] at h0; cases h0), fun j hj => ?_⟩
      have hi := hidx hj
      rw [hr] at hj
      obtain rfl : j = i := by simpa using hj
      refine wpOp_of_O hi (wpO_mono h fun a' w' h' => ⟨fun hlt => ?_, ih f _ _ _ hc2 h'⟩)
      rw [← Nat.blt_eq] at hlt
      rw [hlt] at hN; cases hN
  | fork i r j s ih1 ih2 =>
    intro fuel listed a w hc h
    cases fuel with
    | zero => simp [chk] at hc
    | succ f =>
      simp only [chk, Bool.and_eq_true, beq_iff_eq] at hc
      obtain ⟨⟨⟨⟨hr, _⟩, _⟩, hc1⟩, hc2⟩ := hc
      refine ⟨(fun h0 => by rw [hr] at h0; cases h0), fun q hq => ?_⟩
      have hi := hidx hq
      rw [hr] at hq
      rcases List.mem_cons.1 hq with rfl | hq
      · exact wpOp_of_O hi (wpO_mono h.1 fun a' w' h' => ⟨fun _ => h'.1, ih1 f _ _ _ hc1 h'.2⟩)
      · obtain rfl : q = j := by simpa using hq
        exact wpOp_of_O hi (wpO_mono h.2 fun a' w' h' => ⟨fun _ => h'.1, ih2 f _ _ _ hc2 h'.2⟩)

/-- A region in whatever order; what is lent may change. -/
theorem St.drawR {id : Nat} {l : List Oper} {Q : Exit → Act → World → Prop} (hm : X.P.follows .mixedOrders = true) (N : Nat) (ord : Od)
    (hc : (Region.noSelect l.toArray && chk l.toArray N ord l.length (Array.replicate l.length false)) = true)
    (h : ∀ K, (∀ L' B', Fin X L' B' (fun a w => Q .normal a w) → Fin X L' B' K) → Fin X L B (wpR X.P l X.bor K ord)) : St X L B (.region id l.toArray true) Q := by
  intro a ρ w hI
  simp only [Bool.and_eq_true] at hc
  obtain ⟨hs, hc⟩ := hc
  have h1 := h _ (fun _ _ h => h) a ρ _ (hI.below (Below.drewOnce w))
  have h2 := anyR_of hs ord l.length _ a _ hc h1
  have h3 := wpAny_of_R _ _ _ _ h2
  refine Go.wp_mono (wp_region_any (Q := only fun a w => Q .normal a w) hm ?_) ?_
  · simpa using h3
  · intro e a w h
    cases e with
    | normal => exact h
    | exit _ => exact h.elim
    | goto _ => exact h.elim
    | ret => exact h.elim
    | panic _ => exact h.elim
    | outgrown => exact h.elim

theorem Fin.rdone {l : List Oper} (h : Fin X L B K) : Fin X L B (wpR X.P l X.bor K .done) := h
theorem Fin.rp {l : List Oper} {i : Nat} {r : Od} (h : Ops X l.toArray (.cons (nth l i) .pure .nil) L B (wpR X.P l X.bor K r)) : Fin X L B (wpR X.P l X.bor K (.p i r)) := h
theorem Fin.ra {l : List Oper} {i : Nat} {r : Od} (h : Ops X l.toArray (.cons (nth l i) .any .nil) L B (wpR X.P l X.bor K r)) : Fin X L B (wpR X.P l X.bor K (.a i r)) := h
theorem Fin.rm {l : List Oper} {i : Nat} {r : Od} (h : Ops X l.toArray (.cons (nth l i) .makes .nil) L B (wpR X.P l X.bor K r)) : Fin X L B (wpR X.P l X.bor K (.m i r)) :=
  fun a ρ w hI => wpO_mono (h a ρ w hI) fun _ _ h' => ⟨Fr.of_below h'.1, h'.2⟩
theorem Fin.rfork {l : List Oper} {i j : Nat} {r s : Od} (h1 : Fin X L B (wpR X.P l X.bor K (.m i r))) (h2 : Fin X L B (wpR X.P l X.bor K (.m j s))) : Fin X L B (wpR X.P l X.bor K (.fork i r j s)) :=
  fun a ρ w hI => ⟨h1 a ρ w hI, h2 a ρ w hI⟩

/-- No lent block is that of entry i. -/
def notBor (X : Ctx) (i : Nat) : Prop := ∀ g, X.bor g → ∃ p ∈ X.fix, p.1 ≠ i ∧ blk p.2 = some g
theorem notBor_lent {P : Program} {n : Nat} {S : BSet} {w : World} {g i : Nat} (hi : Nat.beq 0 i = false) : notBor (lent P n S w g) i := fun q hq => ⟨(0, ptrV g), List.mem_cons_self .., fun e => by rw [← e] at hi; simp at hi, by
  have : q = g := hq
  rw [this]; rfl⟩
theorem Is.notBor {a : Act} {ρ : Nat → Value} {w : World} (h : Is X L B a ρ w) {i : Nat} {e : Ent} (hi : bget B i = some e) (hS : Own.notBor X i) : ∀ g, blk (ρ i) = some g → ¬ X.bor g := fun g hg hb => by
  obtain ⟨p, hp, hpi, hpb⟩ := hS g hb
  obtain ⟨h2, h3⟩ := h.fixd p hp
  cases e1 : bget B p.1 with
  | none => rw [e1] at h2; cases h2
  | some e2 => exact absurd (by rw [h3]; exact hpb) (h.apart i p.1 e e2 hi e1 (Ne.symm hpi) g hg)

/-- A cell of a variable that is not lent. -/
theorem Fin.rfA {l : List Oper} {q : Nat} {r : Od} {c : CT} {i o : Nat} {e : Ent} (ho : nth l q = ⟨some d, .load t x, t', pos, af, g⟩) (hg : gd l.toArray L g = some true) (hx : ev L x = some (.loc i o)) (hi : bget B i = some e) (hc : e.cs[o]? = some c) (hT : Ld1 X.P t) (hb : notBor X i) (hn : Nat.blt d X.n = true)
    (h : Fin X ((d, .ct c) :: L) B (wpR X.P l X.bor K r)) : Fin X L B (wpR X.P l X.bor K (.f q r)) := fun a ρ w hI => by
  obtain ⟨gb, h1, h2⟩ := hI.ev hx
  obtain ⟨cur, tt, vs, h3, h4, h5⟩ := Ent.raw (hI.ent i e hi).1 h1
  obtain ⟨v, h6, h7⟩ := h4.get hc
  refine ⟨v, ?_, ?_⟩
  · rw [ho]
    refine .inl ⟨gd_spec (o := ⟨some d, .load t x, t', pos, af, g⟩) hI hg, fun w' hb' => ?_⟩
    show (do pure (Next.value (← Instr.loadAt t (a.eval x))) : Sem Next).run X.P w' = _
    have hcell : w'.cell? ⟨gb, o, none⟩ = w.cell? ⟨gb, o, none⟩ := World.cell?_of_block (hb'.block gb (heap_lt h3) (hI.notBor hi hb gb h1))
    rw [h2]; exact run_v (hT.run (hcell.trans (raw_cell h3 h5 h6)))
  · rw [ho]; exact h _ ρ w (hI.put (s := .ct c) (lt_of_blt hn) h7)

/-- A call that is lent what this call was lent. -/
theorem Fin.rmB {P : Program} {n : Nat} {S : BSet} {w0 : World} {gb0 : Nat} {l : List Oper} {i : Nat} {r : Od} {f : FuncId} {tt : Nat} {x0 : Operand} {args : List Operand} {tys : Array TypeId} {cs As : List CT} {α : Type} {J : α → Prop} {R : α → CT} {D : α → List CT}
    (ho : nth l i = ⟨some d, .call { callee := .value (.func f), args := (x0 :: args).toArray, argTypes := tys }, t, pos, af, g⟩) (hgo : InGo P f) (hok : OkB P f tt cs As J R D) (hg : gd l.toArray L g = some true) (hx : ev L x0 = some (.own 0)) (hi : bget B 0 = some (.box tt cs)) (hargs : evs L args = some As) (hn : Nat.blt d n = true)
    (h : ∀ q, J q → Fin (lent P n S w0 gb0) ((d, .ct (R q)) :: L) (bset B 0 (.box tt (D q))) (wpR P l (fun k => k = gb0) K r)) : Fin (lent P n S w0 gb0) L B (wpR P l (fun k => k = gb0) K (.m i r)) := fun a ρ w hI => by
  show wpO _ _ _ _ _ _
  rw [ho]
  unfold wpO
  rw [if_pos (gd_spec (o := ⟨some d, _, t, pos, af, g⟩) hI hg)]
  unfold Oper.wp
  have hx1 : a.eval x0 = ρ 0 := hI.ev hx
  have hfx : ρ 0 = ptrV gb0 := (hI.fixd (0, ptrV gb0) (List.mem_cons_self ..)).2
  obtain ⟨gb, us, h1, h2, h3⟩ := (hI.ent 0 _ hi).1
  have hgg : gb = gb0 := by rw [hfx] at h1; injection h1 with h1; injection h1 with h1; injection h1 with h1; exact h1.symm
  subst hgg
  have hrun : (execOp a.eval ⟨some d, .call { callee := .value (.func f), args := (x0 :: args).toArray, argTypes := tys }, t, pos, af, g⟩).run P w = .ok (.enter f (ptrV gb :: args.map a.eval).toArray) w := by
    show (do let D ← resolve a.eval { callee := .value (.func f), args := (x0 :: args).toArray, argTypes := tys } t; invoke D.target D.args : Sem Next).run P w = _
    have hf : a.eval (.func f) = .func (.func f) #[] #[] := rfl
    simp only [resolve, hf, Deferred.ofValue, Sem.run_bind, Sem.run_pure, Result.andThen_ok, invoke]
    rw [hgo]
    congr 2
    simp [hx1, h1]
  rw [hrun]
  have hnS : ¬ Sof (lent P n S w0 gb) B ρ gb := fun hs => hs.2 0 _ hi (by rw [h1]; rfl)
  refine Calls.mono (hok (Sof (lent P n S w0 gb) B ρ) w gb us _ hI.freshS hnS h2 h3 (hI.evs hargs)) ?_
  rintro e w' ⟨v, q, rfl, hJ, hv, ⟨us', h4, h5⟩, hF⟩
  have hbl : ∀ k, k < w.heap.size → blk (ρ 0) ≠ some k → w'.heap[k]? = w.heap[k]? := fun k hk hne => hF.block k hk (fun e => hne (by rw [h1, e]; rfl))
  have hW := (Is.write (v := ρ 0) (e' := .box tt (us'.map CT.ex)) hI hi hF.os hF.tape hF.output hF.size hbl (.inl rfl)
    (fun S' hk => ⟨gb, us', h1, h4, cells_ex _⟩) (.inl rfl) (.inl ⟨rfl, rfl⟩)).bext (bget_bset hi)
  rw [upd_self] at hW
  have hi2 : bget (bset B 0 (.box tt (us'.map CT.ex))) 0 = some (.box tt (us'.map CT.ex)) := by rw [bget_bset hi, bget_cons_eq]
  have hS2 : Sof (lent P n S w0 gb) (bset B 0 (.box tt (us'.map CT.ex))) ρ = Sof (lent P n S w0 gb) B ρ := Sof_keys (bset_keys hi)
  have hR := hW.retype (e' := .box tt (D q)) hi2 (by rw [hS2]; exact ⟨gb, us', h1, h4, h5⟩) rfl
  have hbb : bset (bset B 0 (.box tt (us'.map CT.ex))) 0 (.box tt (D q)) = bset B 0 (.box tt (D q)) := bset_bset _ _ _ _
  rw [hbb] at hR
  have hS3 : Sof (lent P n S w0 gb) (bset B 0 (.box tt (D q))) ρ = Sof (lent P n S w0 gb) B ρ := Sof_keys (bset_keys hi)
  exact ⟨hF, h q hJ _ _ w' (hR.put (s := .ct (R q)) (lt_of_blt hn) (by show (R q).p _ w' v; rw [hS3]; exact hv))⟩

end Go.Own
