/-
  More rules: regions that draw their order, with as many ready operations as there are; addresses of fields of elements.
-/
import Derived.Test.YtkeoejfbbmdloaaK20
namespace Go.Own
open Go.RowKit

variable {X : Ctx} {L : AL} {B : BL} {K : Act → World → Prop}
  {x y z : Operand} {d : Nat} {t t2 t' : TypeId} {pos : String} {af : Array Edge} {g : Option (Nat × Bool)}

/-- Orders: br lists the operations that are ready, each with what follows it. -/
inductive Ot where
  | done
  | non
  | p (i : Nat) (r : Ot)
  | f (i : Nat) (r : Ot)
  | a (i : Nat) (r : Ot)
  | br (i : Nat) (r : Ot) (o : Ot)

def wpT (P : Program) (l : List Oper) (bb : BSet) (K : Act → World → Prop) : Ot → Act → World → Prop
  | .done, a, w => K a w
  | .non, _, _ => True
  | .p i r, a, w => ∃ v, Yields P l.toArray (nth l i) v a ∧ wpT P l bb K r (a.put (nth l i).dst v) w
  | .f i r, a, w => ∃ v, YieldsIf P l.toArray (fun w' => Fr bb w w') (nth l i) v a ∧ wpT P l bb K r (a.put (nth l i).dst v) w
  | .a i r, a, w => wpO P l.toArray (fun a' w' => wpT P l bb K r a' w') (nth l i) a w
  | .br i r o, a, w => wpO P l.toArray (fun a' w' => Fr bb w w' ∧ wpT P l bb K r a' w') (nth l i) a w ∧ wpT P l bb K o a w

def alts : Ot → List Nat
  | .br i _ o => i :: alts o
  | _ => []

/-- Each operation from N on waits for operation i, at once or through another one. -/
def waitsT (ops : Array Oper) (N i : Nat) : Bool := (List.range ops.size).all fun j => Nat.blt j N || match ops[j]? with
  | some oj => oj.after.any fun e => Region.binds .any e && (e.on == i || match ops[e.on]? with
    | some ok => ok.after.any fun e' => Region.binds .any e' && e'.on == i
    | none => false)
  | none => true

def chkT (ops : Array Oper) (N : Nat) : Bool → Ot → Nat → Array Bool → Bool
  | true, .done, _, listed => (Region.ready .any ops listed).isEmpty
  | true, .p i r, n + 1, listed => (Region.ready .any ops listed).contains i && Region.free .any ops listed i && chkT ops N true r n (listed.setIfInBounds i true)
  | true, .f i r, n + 1, listed => (Region.ready .any ops listed).contains i && Region.free .any ops listed i && waitsT ops N i && chkT ops N true r n (listed.setIfInBounds i true)
  | true, .a i r, n + 1, listed => Region.ready .any ops listed == [i] && !Nat.blt i N && chkT ops N true r n (listed.setIfInBounds i true)
  | tp, .br i r o, n + 1, listed => (!tp || Region.ready .any ops listed == alts (.br i r o)) && Nat.blt i N && chkT ops N true r n (listed.setIfInBounds i true) && chkT ops N false o (n + 1) listed
  | false, .non, _, _ => true
  | _, _, _, _ => false

/-- What is done has all done that it waited for. -/
def Shut (ops : Array Oper) (listed : Array Bool) : Prop := ∀ k ok, ops[k]? = some ok → listed.getD k false = true → ∀ e ∈ ok.after, Region.binds .any e = true → listed.getD e.on false = true

theorem set_true {listed : Array Bool} {i j : Nat} (h : listed.getD j false = true) : (listed.setIfInBounds i true).getD j false = true := by
  by_cases hij : i = j
  · subst hij
    rcases Nat.lt_or_ge i listed.size with h' | h'
    · simp [h']
    · simp [h'] at h
  · rw [getD_set_ne false hij]; exact h
theorem Shut.step {ops : Array Oper} {listed : Array Bool} {i : Nat} (h : Shut ops listed) (hr : i ∈ Region.ready .any ops listed) : Shut ops (listed.setIfInBounds i true) := fun k ok hk hl e he hb => by
  by_cases hik : i = k
  · subst hik
    obtain ⟨_, o, ho, hall⟩ := mem_ready.1 hr
    rw [hk] at ho; injection ho with ho; subst ho
    exact set_true (hall e he hb)
  · rw [getD_set_ne false hik] at hl; exact set_true (h k ok hk hl e he hb)
theorem Shut.start (ops : Array Oper) (n : Nat) : Shut ops (Array.replicate n false) := fun k ok _ hl => by
  rw [Array.getD_eq_getD_getElem?, Array.getElem?_replicate] at hl
  split at hl <;> cases hl

theorem waitsT_spec {ops : Array Oper} {N i : Nat} (h : waitsT ops N i = true) {listed : Array Bool} (hs : Shut ops listed) (hi : listed.getD i false = false) {j : Nat} (hj : j ∈ Region.ready .any ops listed) : j < N := by
  rcases Nat.lt_or_ge j N with h' | h'
  · exact h'
  · exfalso
    obtain ⟨_, oj, hoj, hall⟩ := mem_ready.1 hj
    simp only [waitsT, List.all_eq_true, List.mem_range] at h
    have h1 := h j (Array.getElem?_eq_some_iff.1 hoj).1
    have hb : Nat.blt j N = false := by
      cases e : Nat.blt j N with
      | false => rfl
      | true => rw [Nat.blt_eq] at e; omega
    simp only [hoj, hb, Bool.false_or] at h1
    obtain ⟨e, he, hb⟩ := Array.any_eq_true'.1 h1
    simp only [Bool.and_eq_true, Bool.or_eq_true, beq_iff_eq] at hb
    obtain ⟨hb1, hb2⟩ := hb
    have hl := hall e he hb1
    rcases hb2 with hb2 | hb2
    · rw [hb2, hi] at hl; cases hl
    · cases ek : ops[e.on]? with
      | none => rw [ek] at hb2; cases hb2
      | some ok =>
        rw [ek] at hb2
        obtain ⟨e', he', hb'⟩ := Array.any_eq_true'.1 hb2
        simp only [Bool.and_eq_true, beq_iff_eq] at hb'
        have h3 := hs e.on ok ek hl e' he' hb'.1
        rw [hb'.2, hi] at h3; cases h3

theorem wpAnyR_firstT {P : Program} {ops : Array Oper} {bb : BSet} {K : Act → World → Prop} {N : Nat} {i : Nat} {oi : Oper} {v : Value} (hi : ops[i]? = some oi)
    (hsel : ∀ (j : Nat) (o : Oper) cs b, ops[j]? = some o → o.op ≠ .select cs b) (htail : waitsT ops N i = true) :
    ∀ (fuel : Nat) (listed : Array Bool) (a : Act) (w : World), Shut ops listed →
      (∀ j oj, ops[j]? = some oj → j ≠ i → listed.getD j true = false → (∀ e ∈ oj.after, Region.binds .any e = true → e.on ≠ i) → oi.apart ops oj = true) →
      i ∈ Region.ready .any ops listed → YieldsIf P ops (fun x => Fr bb w x) oi v a →
      wpAnyR P ops bb K N fuel (listed.setIfInBounds i true) (a.put oi.dst v) w → wpAnyR P ops bb K N (fuel + 1) listed a w := by
  intro fuel
  induction fuel with
  | zero =>
    intro listed a w _ _ hr hy H
    refine ⟨fun h => (by rw [h] at hr; cases hr), fun j hj => ?_⟩
    by_cases hji : j = i
    · subst hji; exact hy.wpOp hi (Fr.refl _ _) ⟨fun _ => Fr.refl _ _, H⟩
    · have := ready_mono hj hji
      rw [H.1] at this
      cases this
  | succ fuel ih =>
    intro listed a w hsh hfree hr hy H
    refine ⟨fun h => (by rw [h] at hr; cases hr), fun j hj => ?_⟩
    by_cases hji : j = i
    · subst hji; exact hy.wpOp hi (Fr.refl _ _) ⟨fun _ => Fr.refl _ _, H⟩
    · have h1 := H.2 j (ready_mono hj hji)
      obtain ⟨hjun, oj, hoj, hall⟩ := mem_ready.1 hj
      have hun : listed.getD i false = false := by
        have h0 := (mem_ready.1 hr).1
        rcases Nat.lt_or_ge i listed.size with h' | h'
        · simpa [h'] using h0
        · simp [h'] at h0
      have hnot : ∀ e ∈ oj.after, Region.binds .any e = true → e.on ≠ i := fun e he hb heq => by
        have h1 := hall e he hb
        rw [heq, hun] at h1; cases h1
      have hjN : j < N := waitsT_spec htail hsh hun hj
      have h2 := wpOp_putIf hoj (hfree j oj hoj hji hjun hnot) (fun cs b => hsel i oi cs b hi) (fun cs b => hsel j oj cs b hoj) (fun _ _ _ h => h.elim) hy h1
      have hfree' : ∀ k ok, ops[k]? = some ok → k ≠ i → (listed.setIfInBounds j true).getD k true = false →
          (∀ e ∈ ok.after, Region.binds .any e = true → e.on ≠ i) → oi.apart ops ok = true := fun k ok hk hki hun hno => by
        refine hfree k ok hk hki ?_ hno
        by_cases hjk : j = k
        · subst hjk; exact hjun
        · rw [getD_set_ne true hjk] at hun; exact hun
      refine wpOp_mono (fun a' w' h3 => ⟨h3.2.1, ih (listed.setIfInBounds j true) a' w' (hsh.step hj) hfree' (ready_mono hr (Ne.symm hji)) (yields_laterR h3.1 (h3.2.1 hjN)) ?_⟩) h2
      rw [Array.setIfInBounds_comm _ _ hji]
      exact h3.2.2

theorem anyR_ofT {P : Program} {l : List Oper} {bb : BSet} {K : Act → World → Prop} {N : Nat} (hs : Region.noSelect l.toArray = true) :
    ∀ (ord : Ot) (fuel : Nat) (listed : Array Bool) (a : Act) (w : World), Shut l.toArray listed →
      (chkT l.toArray N true ord fuel listed = true → wpT P l bb K ord a w → wpAnyR P l.toArray bb K N fuel listed a w) ∧
      (∀ f, fuel = f + 1 → chkT l.toArray N false ord fuel listed = true → wpT P l bb K ord a w → ∀ j ∈ alts ord, j ∈ Region.ready .any l.toArray listed → wpOp P l.toArray (only K) j (fun a' w' => (j < N → Fr bb w w') ∧ wpAnyR P l.toArray bb K N f (listed.setIfInBounds j true) a' w') a w) := by
  have hidx : ∀ {listed : Array Bool} {i : Nat}, i ∈ Region.ready .any l.toArray listed → l.toArray[i]? = some (nth l i) := fun h => nth_eq (by simpa using ready_lt h)
  intro ord
  induction ord with
  | done =>
    intro fuel listed a w _
    refine ⟨fun hc h => ?_, fun f hf hc h j hj => by cases hj⟩
    have hr : Region.ready .any l.toArray listed = [] := by
      cases fuel <;> simpa [chkT] using hc
    cases fuel with
    | zero => exact ⟨hr, h⟩
    | succ f => exact ⟨fun _ => h, by rw [hr]; simp⟩
  | non => intro fuel listed a w _; exact ⟨fun hc h => by simp [chkT] at hc, fun f hf hc h j hj => by cases hj⟩
  | p i r ih =>
    intro fuel listed a w hsh
    refine ⟨fun hc h => ?_, fun f hf hc h j hj => by cases hj⟩
    cases fuel with
    | zero => simp [chkT] at hc
    | succ f =>
      simp only [chkT, Bool.and_eq_true] at hc
      obtain ⟨⟨hr, hfr⟩, hc2⟩ := hc
      have hr' : i ∈ Region.ready .any l.toArray listed := by simpa using hr
      obtain ⟨v, hy, h⟩ := h
      exact wpAnyR_firstP (hidx hr') (Region.noSelect_spec hs) f listed a w (Region.free_spec (hidx hr') hfr) hr' hy ((ih f _ _ _ (hsh.step hr')).1 hc2 h)
  | f i r ih =>
    intro fuel listed a w hsh
    refine ⟨fun hc h => ?_, fun f hf hc h j hj => by cases hj⟩
    cases fuel with
    | zero => simp [chkT] at hc
    | succ f =>
      simp only [chkT, Bool.and_eq_true] at hc
      obtain ⟨⟨⟨hr, hfr⟩, hw⟩, hc2⟩ := hc
      have hr' : i ∈ Region.ready .any l.toArray listed := by simpa using hr
      obtain ⟨v, hy, h⟩ := h
      exact wpAnyR_firstT (hidx hr') (Region.noSelect_spec hs) hw f listed a w hsh (Region.free_spec (hidx hr') hfr) hr' hy ((ih f _ _ _ (hsh.step hr')).1 hc2 h)
  | a i r ih =>
    intro fuel listed a w hsh
    refine ⟨fun hc h => ?_, fun f hf hc h j hj => by cases hj⟩
    cases fuel with
    | zero => simp [chkT] at hc
    | succ f =>
      simp only [chkT, Bool.and_eq_true, beq_iff_eq, Bool.not_eq_true'] at hc
      obtain ⟨⟨hr, hN⟩, hc2⟩ := hc
      refine ⟨(fun h0 => by rw [hr] at h0; cases h0), fun j hj => ?_⟩
      have hi := hidx hj
      have hj' := hj
      rw [hr] at hj
      obtain rfl : j = i := by simpa using hj
      refine wpOp_of_O hi (wpO_mono h fun a' w' h' => ⟨fun hlt => ?_, (ih f _ _ _ (hsh.step hj')).1 hc2 h'⟩)
      rw [← Nat.blt_eq] at hlt
      rw [hlt] at hN; cases hN
  | br i r o ih1 ih2 =>
    have key : ∀ (fuel : Nat) (listed : Array Bool) (a : Act) (w : World), Shut l.toArray listed → ∀ f, fuel = f + 1 → chkT l.toArray N false (.br i r o) fuel listed = true → wpT P l bb K (.br i r o) a w → ∀ j ∈ alts (.br i r o), j ∈ Region.ready .any l.toArray listed → wpOp P l.toArray (only K) j (fun a' w' => (j < N → Fr bb w w') ∧ wpAnyR P l.toArray bb K N f (listed.setIfInBounds j true) a' w') a w := by
      intro fuel listed a w hsh f hf hc h j hj hr
      subst hf
      simp only [chkT, Bool.and_eq_true] at hc
      obtain ⟨⟨_, hc1⟩, hc2⟩ := hc
      rcases List.mem_cons.1 hj with rfl | hj
      · exact wpOp_of_O (hidx hr) (wpO_mono h.1 fun a' w' h' => ⟨fun _ => h'.1, (ih1 f _ _ _ (hsh.step hr)).1 hc1 h'.2⟩)
      · exact (ih2 (f + 1) listed a w hsh).2 f rfl hc2 h.2 j hj hr
    intro fuel listed a w hsh
    refine ⟨fun hc h => ?_, key fuel listed a w hsh⟩
    cases fuel with
    | zero => simp [chkT] at hc
    | succ f =>
      simp only [chkT, Bool.and_eq_true, Bool.not_true, Bool.false_or, beq_iff_eq] at hc
      obtain ⟨⟨⟨hr, hN⟩, hc1⟩, hc2⟩ := hc
      refine ⟨(fun h0 => by rw [hr] at h0; simp [alts] at h0), fun j hj => ?_⟩
      exact key (f + 1) listed a w hsh f rfl (by simp only [chkT, hN, hc1, hc2, Bool.not_false, Bool.true_or, Bool.and_self]) h j (by rw [← hr]; exact hj) hj

/-- A region in whatever order; what is lent may change. -/
theorem St.drawT {id : Nat} {l : List Oper} {Q : Exit → Act → World → Prop} (hm : X.P.follows .mixedOrders = true) (N : Nat) (ord : Ot)
    (hc : (Region.noSelect l.toArray && chkT l.toArray N true ord l.length (Array.replicate l.length false)) = true)
    (h : ∀ K, (∀ L' B', Fin X L' B' (fun a w => Q .normal a w) → Fin X L' B' K) → Fin X L B (wpT X.P l X.bor K ord)) : St X L B (.region id l.toArray true) Q := by
  intro a ρ w hI
  simp only [Bool.and_eq_true] at hc
  obtain ⟨hs, hc⟩ := hc
  have h1 := h _ (fun _ _ h => h) a ρ _ (hI.below (Below.drewOnce w))
  have h2 := (anyR_ofT hs ord l.length _ a _ (Shut.start _ _)).1 hc h1
  have h3 := wpAny_of_R _ _ _ _ h2
  refine Go.wp_mono (wp_region_any (Q := only fun a w => Q .normal a w) hm ?_) ?_
  · simpa using h3
  · intro e a w h
    cases e with
    | normal => exact h
    | exit _ => exact h.elim
    | goto _ => exact h.elim
    | ret => exact h.elim
    | panic _ => exact h.elim
    | outgrown => exact h.elim

theorem Fin.tdone {l : List Oper} (h : Fin X L B K) : Fin X L B (wpT X.P l X.bor K .done) := h
theorem Fin.tnon {l : List Oper} : Fin X L B (wpT X.P l X.bor K .non) := fun _ _ _ _ => trivial
theorem Fin.tp {l : List Oper} {i : Nat} {r : Ot} (h : Ops X l.toArray (.cons (nth l i) .pure .nil) L B (wpT X.P l X.bor K r)) : Fin X L B (wpT X.P l X.bor K (.p i r)) := h
theorem Fin.ta {l : List Oper} {i : Nat} {r : Ot} (h : Ops X l.toArray (.cons (nth l i) .any .nil) L B (wpT X.P l X.bor K r)) : Fin X L B (wpT X.P l X.bor K (.a i r)) := h
theorem Fin.tbr {l : List Oper} {i : Nat} {r o : Ot} (h : Ops X l.toArray (.cons (nth l i) .makes .nil) L B (wpT X.P l X.bor K r)) (h2 : Fin X L B (wpT X.P l X.bor K o)) : Fin X L B (wpT X.P l X.bor K (.br i r o)) :=
  fun a ρ w hI => ⟨wpO_mono (h a ρ w hI) fun _ _ h' => ⟨Fr.of_below h'.1, h'.2⟩, h2 a ρ w hI⟩

theorem yieldsIf_noBor {P : Program} {ops : Array Oper} {o : Oper} {v : Value} {a : Act} {w : World} (h : YieldsIf P ops (fun x => Below w.heap.size w x) o v a) : YieldsIf P ops (fun x => Fr noBor w x) o v a :=
  h.imp (fun ⟨h1, h2⟩ => ⟨h1, fun x hx => h2 x { os := hx.os, tape := hx.tape, output := hx.output, size := hx.size, block := fun k hk => hx.block k hk (fun h => h) }⟩) id
/-- Where nothing is lent, a read. -/
theorem Fin.tf {l : List Oper} {i : Nat} {r : Ot} (hb : X.bor = noBor) (h : Ops X l.toArray (.cons (nth l i) .free .nil) L B (wpT X.P l X.bor K r)) : Fin X L B (wpT X.P l X.bor K (.f i r)) := fun a ρ w hI => by
  obtain ⟨v, hy, h'⟩ := h a ρ w hI
  exact ⟨v, by rw [hb]; exact yieldsIf_noBor hy, h'⟩

theorem Fin.swap {i j : Nat} {e e' : Ent} (hij : Nat.beq i j = false) (h : Fin X L ((j, e') :: (i, e) :: B) K) : Fin X L ((i, e) :: (j, e') :: B) K := fun a ρ w hI => by
  refine h a ρ w (hI.bext fun q => ?_)
  by_cases h1 : i = q
  · subst h1
    by_cases h2 : j = i
    · subst h2; simp at hij
    · rw [bget_cons_ne _ _ h2, bget_cons_eq, bget_cons_eq]
  · by_cases h2 : j = q
    · subst h2; rw [bget_cons_eq, bget_cons_ne _ _ h1, bget_cons_eq]
    · rw [bget_cons_ne _ _ h2, bget_cons_ne _ _ h1, bget_cons_ne _ _ h1, bget_cons_ne _ _ h2]

end Go.Own
