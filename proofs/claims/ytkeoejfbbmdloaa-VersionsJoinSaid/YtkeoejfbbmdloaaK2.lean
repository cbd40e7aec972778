/-
  The laws of code over symbolic states: regions (in the order of the text, and in whatever order), sequence, condition, block, loop, return, entering a function.
-/
import Derived.Test.YtkeoejfbbmdloaaK1
namespace Go.Own
open Go.RowKit

def only (K : Act → World → Prop) : Exit → Act → World → Prop
  | .normal, a, w => K a w
  | _, _, _ => False

def wpO (P : Program) (ops : Array Oper) (K : Act → World → Prop) (o : Oper) (a : Act) (w : World) : Prop :=
  if Region.wanted o (yielded ops a.tmps) then o.wp P a w K (only K) else K (a.put o.dst undef) w

theorem wpO_mono {P : Program} {ops : Array Oper} {K K' : Act → World → Prop} {o : Oper} {a : Act} {w : World} (h : wpO P ops K o a w) (hk : ∀ a w, K a w → K' a w) : wpO P ops K' o a w := by
  unfold wpO at *
  split
  · rename_i hw
    rw [if_pos hw] at h
    have h1 := Oper.wp_mono (Q := only K) hk h
    unfold Oper.wp at h1 ⊢
    generalize (execOp a.eval o).run P w = r at *
    cases r with
    | ok n w' =>
      cases n <;> simp only [Oper.upon] at h1 ⊢ <;> first
        | exact h1
        | exact Calls.mono h1 (fun e w'' he => by
            cases e with
            | returned v => exact he
            | panicked c => exact he.elim
            | outgrown => obtain ⟨a0, w0, h0⟩ := he; exact h0.elim)
    | halt x w' => cases x <;> simp only [Oper.upon] at h1 ⊢ <;> exact h1
  · rename_i hw
    rw [if_neg hw] at h
    exact hk _ _ h

/-- What an operation may do: compute alone; read alone; make memory alone; anything. -/
inductive Kd where
  | pure | free | makes | any
def Kd.rd : Kd → Bool
  | .pure => false
  | _ => true
def Kd.mk : Kd → Bool
  | .makes | .any => true
  | _ => false

/-- Operations one after the other; at a fork either comes first. -/
inductive Pl where
  | nil
  | cons (o : Oper) (k : Kd) (r : Pl)
  | fork (o1 : Oper) (r1 : Pl) (o2 : Oper) (r2 : Pl)

def wpX (P : Program) (ops : Array Oper) (K : Act → World → Prop) : Pl → Act → World → Prop
  | .nil, a, w => K a w
  | .cons o .pure r, a, w => ∃ v, Yields P ops o v a ∧ wpX P ops K r (a.put o.dst v) w
  | .cons o .free r, a, w => ∃ v, YieldsIf P ops (fun w' => Below w.heap.size w w') o v a ∧ wpX P ops K r (a.put o.dst v) w
  | .cons o .makes r, a, w => wpO P ops (fun a' w' => Below w.heap.size w w' ∧ wpX P ops K r a' w') o a w
  | .cons o .any r, a, w => wpO P ops (fun a' w' => wpX P ops K r a' w') o a w
  | .fork o1 r1 o2 r2, a, w => wpO P ops (fun a' w' => Below w.heap.size w w' ∧ wpX P ops K r1 a' w') o1 a w ∧ wpO P ops (fun a' w' => Below w.heap.size w w' ∧ wpX P ops K r2 a' w') o2 a w

theorem yields_wpO {P : Program} {ops : Array Oper} {o : Oper} {v : Value} {a : Act} {w : World} {K : Act → World → Prop} (hy : YieldsIf P ops (fun w' => Below w.heap.size w w') o v a) (h : K (a.put o.dst v) w) : Own.wpO P ops K o a w := by
  unfold Own.wpO
  rcases hy with ⟨hw, hr⟩ | ⟨hw, rfl⟩
  · rw [if_pos hw]; unfold Oper.wp; rw [hr w (Below.refl _ _)]; exact h
  · rw [if_neg (by rw [hw]; simp)]; exact h

theorem wpX_yields {P : Program} {ops : Array Oper} {K : Act → World → Prop} {o : Oper} {v : Value} {r : Pl} {a : Act} {w : World} (k : Kd) (hk : k.rd = true)
    (hy : YieldsIf P ops (fun w' => Below w.heap.size w w') o v a) (h : wpX P ops K r (a.put o.dst v) w) : wpX P ops K (.cons o k r) a w := by
  cases k with
  | pure => cases hk
  | free => exact ⟨v, hy, h⟩
  | makes => exact yields_wpO hy ⟨Below.refl _ _, h⟩
  | any => exact yields_wpO hy h

theorem wpX_pure {P : Program} {ops : Array Oper} {K : Act → World → Prop} {o : Oper} {v : Value} {r : Pl} {a : Act} {w : World} (k : Kd)
    (hy : Yields P ops o v a) (h : wpX P ops K r (a.put o.dst v) w) : wpX P ops K (.cons o k r) a w := by
  cases k with
  | pure => exact ⟨v, hy, h⟩
  | free => exact ⟨v, hy.yieldsIf, h⟩
  | makes => exact yields_wpO hy.yieldsIf ⟨Below.refl _ _, h⟩
  | any => exact yields_wpO hy.yieldsIf h

theorem wpX_makes {P : Program} {ops : Array Oper} {K : Act → World → Prop} {o : Oper} {r : Pl} {a : Act} {w : World} (k : Kd) (hk : k.mk = true)
    (h : wpO P ops (fun a' w' => Below w.heap.size w w' ∧ wpX P ops K r a' w') o a w) : wpX P ops K (.cons o k r) a w := by
  cases k with
  | pure => cases hk
  | free => cases hk
  | makes => exact h
  | any => exact wpO_mono h fun _ _ h => h.2

/-! ### The order of the text -/

def kind2 : List Oper → Pl
  | [] => .nil
  | o :: l => .cons o .any (kind2 l)

theorem wpList_of_X {P : Program} {ops : Array Oper} {K : Act → World → Prop} {Q : Exit → Act → World → Prop} (hQ : ∀ a w, K a w → Q .normal a w) :
    ∀ (l : List Oper) (a : Act) (w : World), wpX P ops K (kind2 l) a w → wpList P ops Q l a w
  | [], a, w, h => hQ a w h
  | o :: l, a, w, h => by
    have h : wpO P ops (fun a' w' => wpX P ops K (kind2 l) a' w') o a w := h
    have h' := wpO_mono h (wpList_of_X hQ l)
    unfold wpO at h'
    unfold wpList
    split
    · rename_i hw
      rw [if_pos hw] at h'
      refine .inl ?_
      unfold Oper.wp at h' ⊢
      generalize (execOp a.eval o).run P w = r at *
      cases r with
      | ok n w' =>
        cases n <;> simp only [Oper.upon] at h' ⊢ <;> first
          | exact h'
          | exact Calls.mono h' (fun e w'' he => by
              cases e with
              | returned v => exact he
              | panicked c => exact he.elim
              | outgrown => obtain ⟨a0, w0, h0⟩ := he; exact h0.elim)
      | halt x w' => cases x <;> simp only [Oper.upon] at h' ⊢ <;> first | exact h' | exact h'.elim
    · rename_i hw
      rw [if_neg hw] at h'
      exact h'

/-! ### Whatever order -/

def wpAnyB (P : Program) (ops : Array Oper) (K : Act → World → Prop) (N : Nat) : Nat → Array Bool → Act → World → Prop
  | 0, listed, a, w => Region.ready .any ops listed = [] ∧ K a w
  | fuel + 1, listed, a, w => (Region.ready .any ops listed = [] → K a w) ∧
      ∀ i ∈ Region.ready .any ops listed, wpOp P ops (only K) i (fun a' w' => (i < N → Below w.heap.size w w') ∧ wpAnyB P ops K N fuel (listed.setIfInBounds i true) a' w') a w

theorem wpAny_of_B {P : Program} {ops : Array Oper} {K : Act → World → Prop} {N : Nat} : ∀ (fuel : Nat) (listed : Array Bool) (a : Act) (w : World), wpAnyB P ops K N fuel listed a w → wpAny P .any ops (only K) fuel listed a w
  | 0, _, _, _, h => h
  | fuel + 1, _, _, _, h => ⟨h.1, fun i hi => wpOp_mono (fun a' w' h' => wpAny_of_B fuel _ a' w' h'.2) (h.2 i hi)⟩

theorem yields_later {P : Program} {ops : Array Oper} {o : Oper} {v : Value} {a : Act} {w w' : World} (hy : YieldsIf P ops (fun x => Below w.heap.size w x) o v a) (hb : Below w.heap.size w w') :
    YieldsIf P ops (fun x => Below w'.heap.size w' x) o v a :=
  hy.imp (fun ⟨h1, h2⟩ => ⟨h1, fun x hx => h2 x (hb.trans (hx.mono hb.size))⟩) id

theorem wpAnyB_first {P : Program} {ops : Array Oper} {K : Act → World → Prop} {N : Nat} {i : Nat} {oi : Oper} {v : Value} (hi : ops[i]? = some oi)
    (hsel : ∀ (j : Nat) (o : Oper) cs b, ops[j]? = some o → o.op ≠ .select cs b)
    (htail : ∀ (j : Nat) (oj : Oper), ops[j]? = some oj → N ≤ j → ∃ e ∈ oj.after, Region.binds .any e = true ∧ e.on = i) :
    ∀ (fuel : Nat) (listed : Array Bool) (a : Act) (w : World),
      (∀ j oj, ops[j]? = some oj → j ≠ i → listed.getD j true = false → (∀ e ∈ oj.after, Region.binds .any e = true → e.on ≠ i) → oi.apart ops oj = true) →
      i ∈ Region.ready .any ops listed → YieldsIf P ops (fun x => Below w.heap.size w x) oi v a →
      wpAnyB P ops K N fuel (listed.setIfInBounds i true) (a.put oi.dst v) w → wpAnyB P ops K N (fuel + 1) listed a w := by
  intro fuel
  induction fuel with
  | zero =>
    intro listed a w _ hr hy H
    refine ⟨fun h => (by rw [h] at hr; cases hr), fun j hj => ?_⟩
    by_cases hji : j = i
    · subst hji; exact hy.wpOp hi (Below.refl _ _) ⟨fun _ => Below.refl _ _, H⟩
    · have := ready_mono hj hji
      rw [H.1] at this
      cases this
  | succ fuel ih =>
    intro listed a w hfree hr hy H
    refine ⟨fun h => (by rw [h] at hr; cases hr), fun j hj => ?_⟩
    by_cases hji : j = i
    · subst hji; exact hy.wpOp hi (Below.refl _ _) ⟨fun _ => Below.refl _ _, H⟩
    · have h1 := H.2 j (ready_mono hj hji)
      obtain ⟨hjun, oj, hoj, hall⟩ := mem_ready.1 hj
      have hnot : ∀ e ∈ oj.after, Region.binds .any e = true → e.on ≠ i := fun e he hb heq => by
        have h1 := hall e he hb
        have h0 := (mem_ready.1 hr).1
        rw [heq] at h1
        rcases Nat.lt_or_ge i listed.size with h' | h'
        · simp [h'] at h0 h1; rw [h0] at h1; cases h1
        · simp [Array.getElem?_eq_none h'] at h1
      have hjN : j < N := by
        rcases Nat.lt_or_ge j N with h' | h'
        · exact h'
        · obtain ⟨e, he, hb, heq⟩ := htail j oj hoj h'
          exact absurd heq (hnot e he hb)
      have h2 := wpOp_putIf hoj (hfree j oj hoj hji hjun hnot) (fun cs b => hsel i oi cs b hi) (fun cs b => hsel j oj cs b hoj) (fun _ _ _ h => h.elim) hy h1
      have hfree' : ∀ k ok, ops[k]? = some ok → k ≠ i → (listed.setIfInBounds j true).getD k true = false →
          (∀ e ∈ ok.after, Region.binds .any e = true → e.on ≠ i) → oi.apart ops ok = true := fun k ok hk hki hun hno => by
        refine hfree k ok hk hki ?_ hno
        by_cases hjk : j = k
        · subst hjk; exact hjun
        · rw [getD_set_ne true hjk] at hun; exact hun
      refine wpOp_mono (fun a' w' h3 => ⟨h3.2.1, ih (listed.setIfInBounds j true) a' w' hfree' (ready_mono hr (Ne.symm hji)) (yields_later h3.1 (h3.2.1 hjN)) ?_⟩) h2
      rw [Array.setIfInBounds_comm _ _ hji]
      exact h3.2.2

theorem wpAnyB_firstP {P : Program} {ops : Array Oper} {K : Act → World → Prop} {N : Nat} {i : Nat} {oi : Oper} {v : Value} (hi : ops[i]? = some oi)
    (hsel : ∀ (j : Nat) (o : Oper) cs b, ops[j]? = some o → o.op ≠ .select cs b) :
    ∀ (fuel : Nat) (listed : Array Bool) (a : Act) (w : World),
      (∀ j oj, ops[j]? = some oj → j ≠ i → listed.getD j true = false → (∀ e ∈ oj.after, Region.binds .any e = true → e.on ≠ i) → oi.apart ops oj = true) →
      i ∈ Region.ready .any ops listed → Yields P ops oi v a →
      wpAnyB P ops K N fuel (listed.setIfInBounds i true) (a.put oi.dst v) w → wpAnyB P ops K N (fuel + 1) listed a w := by
  intro fuel
  induction fuel with
  | zero =>
    intro listed a w _ hr hy H
    refine ⟨fun h => (by rw [h] at hr; cases hr), fun j hj => ?_⟩
    by_cases hji : j = i
    · subst hji; exact hy.wpOp hi ⟨fun _ => Below.refl _ _, H⟩
    · have := ready_mono hj hji
      rw [H.1] at this
      cases this
  | succ fuel ih =>
    intro listed a w hfree hr hy H
    refine ⟨fun h => (by rw [h] at hr; cases hr), fun j hj => ?_⟩
    by_cases hji : j = i
    · subst hji; exact hy.wpOp hi ⟨fun _ => Below.refl _ _, H⟩
    · have h1 := H.2 j (ready_mono hj hji)
      obtain ⟨hjun, oj, hoj, hall⟩ := mem_ready.1 hj
      have hnot : ∀ e ∈ oj.after, Region.binds .any e = true → e.on ≠ i := fun e he hb heq => by
        have h1 := hall e he hb
        have h0 := (mem_ready.1 hr).1
        rw [heq] at h1
        rcases Nat.lt_or_ge i listed.size with h' | h'
        · simp [h'] at h0 h1; rw [h0] at h1; cases h1
        · simp [Array.getElem?_eq_none h'] at h1
      have h2 := wpOp_put hoj (hfree j oj hoj hji hjun hnot) (fun cs b => hsel i oi cs b hi) (fun cs b => hsel j oj cs b hoj) (fun _ _ _ h => h.elim) hy h1
      have hfree' : ∀ k ok, ops[k]? = some ok → k ≠ i → (listed.setIfInBounds j true).getD k true = false →
          (∀ e ∈ ok.after, Region.binds .any e = true → e.on ≠ i) → oi.apart ops ok = true := fun k ok hk hki hun hno => by
        refine hfree k ok hk hki ?_ hno
        by_cases hjk : j = k
        · subst hjk; exact hjun
        · rw [getD_set_ne true hjk] at hun; exact hun
      refine wpOp_mono (fun a' w' h3 => ⟨h3.2.1, ih (listed.setIfInBounds j true) a' w' hfree' (ready_mono hr (Ne.symm hji)) h3.1 ?_⟩) h2
      rw [Array.setIfInBounds_comm _ _ hji]
      exact h3.2.2

def nth (l : List Oper) (i : Nat) : Oper := match l, i with
  | [], _ => default
  | o :: _, 0 => o
  | _ :: l, i + 1 => nth l i

/-- An order of the operations of a region. -/
inductive Od where
  | done
  | p (i : Nat) (r : Od)
  | f (i : Nat) (r : Od)
  | m (i : Nat) (r : Od)
  | a (i : Nat) (r : Od)
  | fork (i : Nat) (r : Od) (j : Nat) (s : Od)

def pick (l : List Oper) : Od → Pl
  | .done => .nil
  | .p i r => .cons (nth l i) .pure (pick l r)
  | .f i r => .cons (nth l i) .free (pick l r)
  | .m i r => .cons (nth l i) .makes (pick l r)
  | .a i r => .cons (nth l i) .any (pick l r)
  | .fork i r j s => .fork (nth l i) (pick l r) (nth l j) (pick l s)

def waitsOn (ops : Array Oper) (N i : Nat) : Bool := (List.range ops.size).all fun j => Nat.blt j N || match ops[j]? with
  | some oj => oj.after.any fun e => Region.binds .any e && e.on == i
  | none => true

def chk (ops : Array Oper) (N : Nat) : Od → Nat → Array Bool → Bool
  | .done, _, listed => (Region.ready .any ops listed).isEmpty
  | _, 0, _ => false
  | .p i r, n + 1, listed => (Region.ready .any ops listed).contains i && Region.free .any ops listed i && chk ops N r n (listed.setIfInBounds i true)
  | .f i r, n + 1, listed => (Region.ready .any ops listed).contains i && Region.free .any ops listed i && waitsOn ops N i && chk ops N r n (listed.setIfInBounds i true)
  | .m i r, n + 1, listed => Region.ready .any ops listed == [i] && Nat.blt i N && chk ops N r n (listed.setIfInBounds i true)
  | .a i r, n + 1, listed => Region.ready .any ops listed == [i] && !Nat.blt i N && chk ops N r n (listed.setIfInBounds i true)
  | .fork i r j s, n + 1, listed => Region.ready .any ops listed == [i, j] && Nat.blt i N && Nat.blt j N && chk ops N r n (listed.setIfInBounds i true) && chk ops N s n (listed.setIfInBounds j true)

theorem nth_eq {l : List Oper} {i : Nat} (h : i < l.length) : l.toArray[i]? = some (nth l i) := by
  simp only [List.getElem?_toArray]
  induction l generalizing i with
  | nil => simp at h
  | cons o l ih =>
    cases i with
    | zero => rfl
    | succ i => simp only [List.getElem?_cons_succ, nth]; exact ih (by simpa using h)

theorem ready_lt {ops : Array Oper} {listed : Array Bool} {i : Nat} (h : i ∈ Region.ready .any ops listed) : i < ops.size := by
  obtain ⟨_, o, ho, _⟩ := mem_ready.1 h
  exact (Array.getElem?_eq_some_iff.1 ho).1

theorem waits_spec {ops : Array Oper} {N i : Nat} (h : waitsOn ops N i = true) (j : Nat) (oj : Oper) (hj : ops[j]? = some oj) (hN : N ≤ j) : ∃ e ∈ oj.after, Region.binds .any e = true ∧ e.on = i := by
  simp only [waitsOn, List.all_eq_true, List.mem_range] at h
  have h1 := h j (Array.getElem?_eq_some_iff.1 hj).1
  have hb : Nat.blt j N = false := by
    cases e : Nat.blt j N with
    | false => rfl
    | true => rw [Nat.blt_eq] at e; omega
  simp only [hj, hb, Bool.false_or] at h1
  obtain ⟨e, he, hb⟩ := Array.any_eq_true'.1 h1
  simp only [Bool.and_eq_true, beq_iff_eq] at hb
  exact ⟨e, he, hb.1, hb.2⟩

theorem wpOp_of_O {P : Program} {ops : Array Oper} {K : Act → World → Prop} {K' : Act → World → Prop} {i : Nat} {o : Oper} {a : Act} {w : World} (hi : ops[i]? = some o) (h : wpO P ops K' o a w) : wpOp P ops (only K) i K' a w := by
  unfold wpOp
  simp only [hi]
  unfold wpO at h
  split
  · rename_i hw
    rw [if_pos hw] at h
    refine .inl ?_
    unfold Oper.wp at h ⊢
    generalize (execOp a.eval o).run P w = r at *
    cases r with
    | ok n w' =>
      cases n <;> simp only [Oper.upon] at h ⊢ <;> first
        | exact h
        | exact Calls.mono h (fun e w'' he => by
            cases e with
            | returned v => exact he
            | panicked c => exact he.elim
            | outgrown => obtain ⟨a0, w0, h0⟩ := he; exact h0.elim)
    | halt x w' => cases x <;> simp only [Oper.upon] at h ⊢ <;> first | exact h | exact h.elim
  · rename_i hw
    rw [if_neg hw] at h
    exact h

theorem anyB_of_X {P : Program} {l : List Oper} {K : Act → World → Prop} {N : Nat} (hs : Region.noSelect l.toArray = true) :
    ∀ (ord : Od) (fuel : Nat) (listed : Array Bool) (a : Act) (w : World), chk l.toArray N ord fuel listed = true →
      wpX P l.toArray K (pick l ord) a w → wpAnyB P l.toArray K N fuel listed a w := by
  have hidx : ∀ {listed : Array Bool} {i : Nat}, i ∈ Region.ready .any l.toArray listed → l.toArray[i]? = some (nth l i) := fun h => nth_eq (by simpa using ready_lt h)
  intro ord
  induction ord with
  | done =>
    intro fuel listed a w hc h
    have hr : Region.ready .any l.toArray listed = [] := by
      cases fuel <;> simpa [chk] using hc
    cases fuel with
    | zero => exact ⟨hr, h⟩
    | succ f => exact ⟨fun _ => h, by rw [hr]; simp⟩
  | p i r ih =>
    intro fuel listed a w hc h
    cases fuel with
    | zero => simp [chk] at hc
    | succ f =>
      simp only [chk, Bool.and_eq_true] at hc
      obtain ⟨⟨hr, hfr⟩, hc2⟩ := hc
      have hr' : i ∈ Region.ready .any l.toArray listed := by simpa using hr
      obtain ⟨v, hy, h⟩ := h
      exact wpAnyB_firstP (hidx hr') (Region.noSelect_spec hs) f listed a w (Region.free_spec (hidx hr') hfr) hr' hy (ih f _ _ _ hc2 h)
  | f i r ih =>
    intro fuel listed a w hc h
    cases fuel with
    | zero => simp [chk] at hc
    | succ f =>
      simp only [chk, Bool.and_eq_true] at hc
      obtain ⟨⟨⟨hr, hfr⟩, hw⟩, hc2⟩ := hc
      have hr' : i ∈ Region.ready .any l.toArray listed := by simpa using hr
      obtain ⟨v, hy, h⟩ := h
      exact wpAnyB_first (hidx hr') (Region.noSelect_spec hs) (waits_spec hw) f listed a w (Region.free_spec (hidx hr') hfr) hr' hy (ih f _ _ _ hc2 h)
  | m i r ih =>
    intro fuel listed a w hc h
    cases fuel with
    | zero => simp [chk] at hc
    | succ f =>
      simp only [chk, Bool.and_eq_true, beq_iff_eq] at hc
      obtain ⟨⟨hr, _⟩, hc2⟩ := hc
      refine ⟨(fun h0 => by rw [hr] at h0; cases h0), fun j hj => ?_⟩
      have hi := hidx hj
      rw [hr] at hj
      obtain rfl : j = i := by simpa using hj
      exact wpOp_of_O hi (wpO_mono h fun a' w' h' => ⟨fun _ => h'.1, ih f _ _ _ hc2 h'.2⟩)
  | a i r ih =>
    intro fuel listed a w hc h
    cases fuel with
    | zero => simp [chk] at hc
    | succ f =>
      simp only [chk, Bool.and_eq_true, beq_iff_eq, Bool.not_eq_true'] at hc
      obtain ⟨⟨hr, hN⟩, hc2⟩ := hc
      refine ⟨(fun h0 => by rw [hr] at h0; cases h0), fun j hj => ?_⟩
      have hi := hidx hj
      rw [hr] at hj
      obtain rfl : j = i := by simpa using hj
      refine wpOp_of_O hi (wpO_mono h fun a' w' h' => ⟨fun hlt => ?_, ih f _ _ _ hc2 h'⟩)
      rw [← Nat.blt_eq] at hlt
      rw [hlt] at hN; cases hN
  | fork i r j s ih1 ih2 =>
    intro fuel listed a w hc h
    cases fuel with
    | zero => simp [chk] at hc
    | succ f =>
      simp only [chk, Bool.and_eq_true, beq_iff_eq] at hc
      obtain ⟨⟨⟨⟨hr, _⟩, _⟩, hc1⟩, hc2⟩ := hc
      refine ⟨(fun h0 => by rw [hr] at h0; cases h0), fun q hq => ?_⟩
      have hi := hidx hq
      rw [hr] at hq
      rcases List.mem_cons.1 hq with rfl | hq
      · exact wpOp_of_O hi (wpO_mono h.1 fun a' w' h' => ⟨fun _ => h'.1, ih1 f _ _ _ hc1 h'.2⟩)
      · obtain rfl : q = j := by simpa using hq
        exact wpOp_of_O hi (wpO_mono h.2 fun a' w' h' => ⟨fun _ => h'.1, ih2 f _ _ _ hc2 h'.2⟩)

/-! ### States and code -/

def Ops (X : Ctx) (ops : Array Oper) (l : Pl) (L : AL) (B : BL) (K : Act → World → Prop) : Prop := Fin X L B (wpX X.P ops K l)

theorem Ops.nil {X : Ctx} {ops : Array Oper} {L : AL} {B : BL} {K : Act → World → Prop} (h : Fin X L B K) : Ops X ops .nil L B K := h
theorem Ops.fork {X : Ctx} {ops : Array Oper} {L : AL} {B : BL} {K : Act → World → Prop} {o1 o2 : Oper} {r1 r2 : Pl} (h1 : Ops X ops (.cons o1 .makes r1) L B K) (h2 : Ops X ops (.cons o2 .makes r2) L B K) : Ops X ops (.fork o1 r1 o2 r2) L B K := fun a ρ w hI => ⟨h1 a ρ w hI, h2 a ρ w hI⟩

theorem St.region {X : Ctx} {L : AL} {B : BL} {id : Nat} {l : List Oper} {Q : Exit → Act → World → Prop} (h : Ops X l.toArray (kind2 l) L B (fun a w => Q .normal a w)) :
    St X L B (.region id l.toArray false) Q :=
  fun a ρ w hI => wp_region_lit (wpList_of_X (fun _ _ h => h) l a w (h a ρ w hI))

theorem Below.drewOnce (w : World) : Below w.heap.size w { w with drawn := w.drawn + 1 } := ⟨rfl, rfl, rfl, Nat.le_refl _, fun _ _ => rfl⟩

theorem St.draw {X : Ctx} {L : AL} {B : BL} {id : Nat} {l : List Oper} {Q : Exit → Act → World → Prop} (hm : X.P.follows .mixedOrders = true) (N : Nat) (ord : Od)
    (hc : (Region.noSelect l.toArray && chk l.toArray N ord l.length (Array.replicate l.length false)) = true)
    (h : Ops X l.toArray (pick l ord) L B (fun a w => Q .normal a w)) : St X L B (.region id l.toArray true) Q := by
  intro a ρ w hI
  simp only [Bool.and_eq_true] at hc
  obtain ⟨hs, hc⟩ := hc
  have h1 := h a ρ _ (hI.below (Below.drewOnce w))
  have h2 := anyB_of_X hs ord l.length _ a _ hc h1
  have h3 := wpAny_of_B _ _ _ _ h2
  refine Go.wp_mono (wp_region_any (Q := only fun a w => Q .normal a w) hm ?_) ?_
  · simpa using h3
  · intro e a w h
    cases e with
    | normal => exact h
    | exit _ => exact h.elim
    | goto _ => exact h.elim
    | ret => exact h.elim
    | panic _ => exact h.elim
    | outgrown => exact h.elim

theorem St.seq {X : Ctx} {L : AL} {B : BL} {x y : Code} {Q : Exit → Act → World → Prop} (h : St X L B x (Exit.then (y.wp X.P Q) Q)) : St X L B (.seq x y) Q := fun a ρ w hI => wp_seq (h a ρ w hI)
theorem St.skip {X : Ctx} {L : AL} {B : BL} {Q : Exit → Act → World → Prop} (h : Fin X L B (fun a w => Q .normal a w)) : St X L B .skip Q := fun a ρ w hI => wp_skip (h a ρ w hI)
theorem St.exit {X : Ctx} {L : AL} {B : BL} {id : Nat} {Q : Exit → Act → World → Prop} (h : Fin X L B (fun a w => Q (.exit id) a w)) : St X L B (.exit id) Q := fun a ρ w hI => wp_exit (h a ρ w hI)
theorem St.ret {X : Ctx} {L : AL} {B : BL} {Q : Exit → Act → World → Prop} (h : Fin X L B (fun a w => Q .ret a w)) : St X L B .ret Q := fun a ρ w hI => wp_ret (h a ρ w hI)
theorem St.block {X : Ctx} {L : AL} {B : BL} {id : Nat} {c : Code} {Q : Exit → Act → World → Prop} (h : St X L B c (Exit.inBlock id Q)) : St X L B (.block id c) Q := fun a ρ w hI => wp_block (h a ρ w hI)

theorem St.condT {X : Ctx} {L : AL} {B : BL} {c : Operand} {x y : Code} {Q : Exit → Act → World → Prop} (hc : ev L c = some (.ct (.ex (.bool true)))) (h : St X L B x Q) : St X L B (.cond c x y) Q :=
  fun a ρ w hI => wp_cond_true (hI.evx hc) (h a ρ w hI)
theorem St.condF {X : Ctx} {L : AL} {B : BL} {c : Operand} {x y : Code} {Q : Exit → Act → World → Prop} (hc : ev L c = some (.ct (.ex (.bool false)))) (h : St X L B y Q) : St X L B (.cond c x y) Q :=
  fun a ρ w hI => wp_cond_false (hI.evx hc) (h a ρ w hI)
theorem St.condB {X : Ctx} {L : AL} {B : BL} {c : Operand} {x y : Code} {Q : Exit → Act → World → Prop} {b : Bool} (hc : ev L c = some (.ct (.ex (.bool b)))) (h1 : b = true → St X L B x Q) (h2 : b = false → St X L B y Q) : St X L B (.cond c x y) Q := by
  cases b with
  | true => exact St.condT hc (h1 rfl)
  | false => exact St.condF hc (h2 rfl)

/-- Behind a part of a sequence. -/
theorem Fin.then {X : Ctx} {L : AL} {B : BL} {y : Code} {Q : Exit → Act → World → Prop} (h : St X L B y Q) : Fin X L B (fun a w => Exit.then (y.wp X.P Q) Q .normal a w) := h
theorem Fin.thenExit {X : Ctx} {L : AL} {B : BL} {f : Act → World → Prop} {i : Nat} {Q : Exit → Act → World → Prop} (h : Fin X L B (fun a w => Q (.exit i) a w)) : Fin X L B (fun a w => Exit.then f Q (.exit i) a w) := h
theorem Fin.thenRet {X : Ctx} {L : AL} {B : BL} {f : Act → World → Prop} {Q : Exit → Act → World → Prop} (h : Fin X L B (fun a w => Q .ret a w)) : Fin X L B (fun a w => Exit.then f Q .ret a w) := h
theorem Fin.thenN {X : Ctx} {L : AL} {B : BL} {f : Act → World → Prop} {Q : Exit → Act → World → Prop} (h : Fin X L B f) : Fin X L B (fun a w => Exit.then f Q .normal a w) := h
theorem Fin.blockN {X : Ctx} {L : AL} {B : BL} {id : Nat} {Q : Exit → Act → World → Prop} (h : Fin X L B (fun a w => Q .normal a w)) : Fin X L B (fun a w => Exit.inBlock id Q .normal a w) := h
theorem Fin.blockRet {X : Ctx} {L : AL} {B : BL} {id : Nat} {Q : Exit → Act → World → Prop} (h : Fin X L B (fun a w => Q .ret a w)) : Fin X L B (fun a w => Exit.inBlock id Q .ret a w) := h
theorem Fin.blockE {X : Ctx} {L : AL} {B : BL} {id : Nat} {Q : Exit → Act → World → Prop} (h : Fin X L B (fun a w => Q .normal a w)) : Fin X L B (fun a w => Exit.inBlock id Q (.exit id) a w) :=
  fun a ρ w hI => by simp only [Exit.inBlock, if_true]; exact h a ρ w hI
theorem Fin.blockX {X : Ctx} {L : AL} {B : BL} {id i : Nat} {Q : Exit → Act → World → Prop} (hi : Nat.beq i id = false) (h : Fin X L B (fun a w => Q (.exit i) a w)) : Fin X L B (fun a w => Exit.inBlock id Q (.exit i) a w) :=
  fun a ρ w hI => by
    have hne : i ≠ id := fun e => by subst e; simp at hi
    simp only [Exit.inBlock, if_neg hne]; exact h a ρ w hI

/-! ### Weakening -/

def subL (L : AL) : AL → Prop
  | [] => True
  | (d, s) :: r => look L d = some s ∧ subL L r

theorem Is.subL {X : Ctx} {L L' : AL} {B : BL} {a : Act} {ρ : Nat → Value} {w : World} (h : Is X L B a ρ w) (hs : Own.subL L L') : Is X L' B a ρ w := by
  refine h.sub fun d s hd => ?_
  induction L' with
  | nil => cases hd
  | cons x r ih =>
    obtain ⟨k, t⟩ := x
    obtain ⟨h1, h2⟩ := hs
    by_cases hk : k = d
    · subst hk; rw [look_cons_eq] at hd; injection hd with hd; subst hd; exact h.slot k t h1
    · rw [look_cons_ne _ _ hk] at hd; exact ih h2 hd

theorem Fin.keep {X : Ctx} {L : AL} {B : BL} {K : Act → World → Prop} (L' : AL) (hs : subL L L') (h : Fin X L' B K) : Fin X L B K := fun a ρ w hI => h a ρ w (hI.subL hs)
theorem St.keep {X : Ctx} {L : AL} {B : BL} {c : Code} {Q : Exit → Act → World → Prop} (L' : AL) (hs : subL L L') (h : St X L' B c Q) : St X L B c Q := Fin.keep L' hs h

/-- Entry i is none of those that are lent. -/
def noFix (X : Ctx) (i : Nat) : Bool := X.fix.all fun p => !Nat.beq p.1 i
theorem noFix_ne {X : Ctx} {i : Nat} (h : noFix X i = true) : ∀ p ∈ X.fix, p.1 ≠ i := fun p hp e => by
  have := List.all_eq_true.1 h p hp
  subst e; simp at this

/-- An entry is given up: its block is frozen from now on. -/
theorem Is.dropB {X : Ctx} {L : AL} {B : BL} {a : Act} {ρ : Nat → Value} {w : World} (h : Is X L B a ρ w) (i : Nat) (hf : noFix X i = true) : Is X L (bdel B i) a ρ w := by
  have hsub : ∀ j e, bget (bdel B i) j = some e → bget B j = some e := fun j e hj => by
    by_cases hji : j = i
    · subst hji; rw [bget_bdel_eq] at hj; cases hj
    · rwa [bget_bdel_ne _ hji] at hj
  have hk : Kp (Sof X B ρ) (Sof X (bdel B i) ρ) w w := ⟨Nat.le_refl _, fun k _ hs => ⟨⟨hs.1, fun j e hj => hs.2 j e (hsub j e hj)⟩, rfl⟩⟩
  exact ⟨h.size, h.defers, fun d s hd => Sl.mono hk (h.slot d s hd), fun j e hj => ⟨Ent.keep hk (fun _ _ _ => rfl) (h.ent j e (hsub j e hj)).1, (h.ent j e (hsub j e hj)).2⟩,
    fun p q e e' hp hq => h.apart p q e e' (hsub p e hp) (hsub q e' hq), h.frame, h.fresh, fun p hp => by rw [bget_bdel_ne _ (noFix_ne hf p hp)]; exact h.fixd p hp⟩
theorem Fin.dropB {X : Ctx} {L : AL} {B : BL} {K : Act → World → Prop} (i : Nat) (h : Fin X L (bdel B i) K) (hf : noFix X i = true := by rfl) : Fin X L B K := fun a ρ w hI => h a ρ w (hI.dropB i hf)

/-! ### A loop -/

/-- One state follows from another. -/
def Entails (X : Ctx) (L : AL) (B : BL) (L' : AL) (B' : BL) : Prop := ∀ a ρ w, Is X L B a ρ w → ∃ ρ', Is X L' B' a ρ' w
theorem Entails.sub {X : Ctx} {L L' : AL} {B : BL} (h : subL L L') : Entails X L B L' B := fun _ ρ _ hI => ⟨ρ, hI.subL h⟩
theorem Entails.trans {X : Ctx} {L L' L'' : AL} {B B' B'' : BL} (h : Entails X L B L' B') (h' : Entails X L' B' L'' B'') : Entails X L B L'' B'' := fun a ρ w hI => by
  obtain ⟨ρ', hI'⟩ := h a ρ w hI
  exact h' a ρ' w hI'
theorem Entails.dropB {X : Ctx} {L L' : AL} {B B' : BL} (i : Nat) (h : Entails X L (bdel B i) L' B') (hf : noFix X i = true := by rfl) : Entails X L B L' B' := fun a ρ w hI => h a ρ w (hI.dropB i hf)

theorem least {p : Nat → Prop} (h : ∃ n, p n) : ∃ n, p n ∧ ∀ m, p m → n ≤ m := by
  obtain ⟨n, hn⟩ := h
  induction n using Nat.strongRecOn with
  | ind n ih =>
    by_cases hm : ∃ m, m < n ∧ p m
    · obtain ⟨m, h1, h2⟩ := hm; exact ih m h1 h2
    · exact ⟨n, hn, fun m hpm => by
        rcases Nat.lt_or_ge m n with h | h
        · exact absurd ⟨m, h, hpm⟩ hm
        · exact h⟩

theorem St.loop {X : Ctx} {L : AL} {B : BL} {body : Code} {Q : Exit → Act → World → Prop} {α : Type} (J : α → Prop) (Lx : α → AL) (Bx : α → BL) (μ : α → Nat) (x0 : α) (hJ : J x0)
    (h0 : Entails X L B (Lx x0) (Bx x0))
    (round : ∀ x, J x → St X (Lx x) (Bx x) body (Exit.then (fun a w => ∃ y ρ, μ y < μ x ∧ J y ∧ Is X (Lx y) (Bx y) a ρ w) Q)) : St X L B (.loop body) Q := by
  classical
  intro a ρ w hI
  obtain ⟨ρ0, hI0⟩ := h0 a ρ w hI
  let I : Act → World → Prop := fun a w => ∃ x ρ, J x ∧ Is X (Lx x) (Bx x) a ρ w
  let m : Act → World → Nat := fun a w => if h : ∃ n, ∃ x ρ, μ x = n ∧ J x ∧ Is X (Lx x) (Bx x) a ρ w then Classical.choose (least h) else 0
  refine wp_loop I m ⟨x0, ρ0, hJ, hI0⟩ ?_
  intro a w ⟨x, ρ, hx, hIx⟩
  have hex : ∃ n, ∃ x ρ, μ x = n ∧ J x ∧ Is X (Lx x) (Bx x) a ρ w := ⟨μ x, x, ρ, rfl, hx, hIx⟩
  obtain ⟨x1, ρ1, e1, hx1, hI1⟩ := (Classical.choose_spec (least hex)).1
  have hm : m a w = μ x1 := by simp only [m, dif_pos hex]; exact e1.symm
  refine Go.wp_mono (round x1 hx1 a ρ1 w hI1) ?_
  intro e a' w' h
  cases e with
  | normal =>
    obtain ⟨y, ρ', hlt, hy, hIy⟩ := h
    refine ⟨⟨y, ρ', hy, hIy⟩, ?_⟩
    have hex' : ∃ n, ∃ x ρ, μ x = n ∧ J x ∧ Is X (Lx x) (Bx x) a' ρ w' := ⟨μ y, y, ρ', rfl, hy, hIy⟩
    have hle : m a' w' ≤ μ y := by simp only [m, dif_pos hex']; exact (Classical.choose_spec (least hex')).2 _ ⟨y, ρ', rfl, hy, hIy⟩
    rw [hm]; omega
  | exit _ => exact h
  | goto _ => exact h
  | ret => exact h
  | panic _ => exact h
  | outgrown => exact h

theorem Fin.next {X : Ctx} {L : AL} {B : BL} {α : Type} {J : α → Prop} {Lx : α → AL} {Bx : α → BL} {μ : α → Nat} {n : Nat} (y : α) (hμ : μ y < n) (hJ : J y) (h : Entails X L B (Lx y) (Bx y)) :
    Fin X L B (fun a w => ∃ y ρ, μ y < n ∧ J y ∧ Is X (Lx y) (Bx y) a ρ w) := fun a ρ w hI => by
  obtain ⟨ρ', hI'⟩ := h a ρ w hI
  exact ⟨y, ρ', hμ, hJ, hI'⟩

/-- A cut: whatever way it was reached, the state is one of a family. -/
theorem Fin.fam {X : Ctx} {L : AL} {B : BL} {K : Act → World → Prop} {α : Type} {J : α → Prop} {Lx : α → AL} {Bx : α → BL} (h : ∀ x, J x → Fin X (Lx x) (Bx x) K) (y : α) (hJ : J y) (he : Entails X L B (Lx y) (Bx y)) : Fin X L B K := fun a ρ w hI => by
  obtain ⟨ρ', hI'⟩ := he a ρ w hI
  exact h y hJ a ρ' w hI'

/-! ### Contracts -/

/-- Called with arguments of these kinds, function f returns a result of that kind; what was there stays. -/
def Ok (P : Program) (f : FuncId) (As : List CT) (R : CT) : Prop :=
  ∀ (S : BSet) (w : World) (vs : List Value), (∀ k, w.heap.size ≤ k → S k) → cells S w As vs →
    Calls P f vs.toArray w (fun e w' => ∃ v, e = .returned v ∧ R.p S w' v ∧ Below w.heap.size w w')

def argL : Nat → List CT → AL
  | _, [] => []
  | i, c :: cs => (i, .ct c) :: argL (i + 1) cs

def noBor : BSet := fun _ => False

def okPost (X : Ctx) (R : CT) : Ending → World → Prop := fun e w' => ∃ v, e = .returned v ∧ R.p X.S0 w' v ∧ Below X.w0.heap.size X.w0 w'

theorem look_argL {S : BSet} {w : World} : ∀ {cs : List CT} {vs : List Value} {i d : Nat} {s : Sl}, cells S w cs vs → look (argL i cs) d = some s → ∃ v c, i ≤ d ∧ vs[d - i]? = some v ∧ s = .ct c ∧ c.p S w v
  | [], [], _, _, _, _, h => by cases h
  | c :: cs, v :: vs, i, d, s, ⟨a, b⟩, h => by
    by_cases hd : i = d
    · subst hd; simp only [argL] at h; rw [look_cons_eq] at h; injection h with h; subst h; exact ⟨v, c, Nat.le_refl _, by simp, rfl, a⟩
    · simp only [argL] at h; rw [look_cons_ne _ _ hd] at h
      obtain ⟨u, c', h1, h2, h3, h4⟩ := look_argL b h
      refine ⟨u, c', by omega, ?_, h3, h4⟩
      rw [show d - i = (d - (i + 1)) + 1 by omega, List.getElem?_cons_succ]; exact h2
  | [], _ :: _, _, _, _, h, _ => h.elim
  | _ :: _, [], _, _, _, h, _ => h.elim

theorem Ok.enter {P : Program} {f : FuncId} {fn : Func} {c : Code} {As : List CT} {R : CT} (hf : P.funcs[f]? = some fn) (hb : fn.body = some c) (n : Nat) (hn : fn.ntmps = n) (ha : Nat.ble As.length n = true)
    (h : ∀ S w, St { P := P, n := n, S0 := S, w0 := w, bor := noBor } (argL 0 As) [] c (bodyPost P fn (okPost { P := P, n := n, S0 := S, w0 := w, bor := noBor } R))) : Ok P f As R := by
  intro S w vs hS hA
  have hl := hA.length
  have hle := Nat.le_of_ble_eq_true ha
  refine calls_of_wp hf hb ?_
  refine h S w _ (fun _ => undef) w ?_
  have hSof : ∀ k, S k → Sof { P := P, n := n, S0 := S, w0 := w, bor := noBor } [] (fun _ => undef) k := fun k hk => ⟨hk, fun i e hi => by cases hi⟩
  refine ⟨by simp [hn]; omega, rfl, fun d s hd => ?_, (fun i e hi => by cases hi), (fun i j e e' hi => by cases hi), ⟨rfl, rfl, rfl, Nat.le_refl _, fun _ _ _ => rfl⟩, hS, (fun p hp => by cases hp)⟩
  obtain ⟨v, c', _, h2, rfl, h4⟩ := look_argL hA hd
  have hlt : d < vs.length := by rw [Nat.sub_zero] at h2; exact (List.getElem?_eq_some_iff.1 h2).1
  have : (vs.toArray ++ Array.replicate (fn.ntmps - vs.toArray.size) undef).getD d undef = v := by
    rw [Array.getD_eq_getD_getElem?, Array.getElem?_append_left (by simpa using hlt)]
    rw [Nat.sub_zero] at h2
    simp [h2]
  show c'.p _ w _
  rw [this]
  exact CT.mono (S := S) ⟨Nat.le_refl _, fun k _ hk => ⟨hSof k hk, rfl⟩⟩ h4

end Go.Own
