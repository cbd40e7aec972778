/- The proof that LossSteps holds for every input, without conditions: part 2 of 6. -/
import Derived.Test.YtlkdkbdgnjcopaaGreatZ1
import Derived.Laws.Slices
import Derived.Shelf.SlSortCmp.NoneTotal
namespace Go.Own
open Go.RowKit
variable {X : Ctx} {L : AL} {B : BL} {K : Act → World → Prop}
  {x y z : Operand} {d : Nat} {t t2 t' : TypeId} {pos : String} {af : Array Edge} {g : Option (Nat × Bool)}
inductive Ot where
  | done
  | non
  | p (i : Nat) (r : Ot)
  | f (i : Nat) (r : Ot)
  | a (i : Nat) (r : Ot)
  | br (i : Nat) (r : Ot) (o : Ot)
def wpT (P : Program) (l : List Oper) (bb : BSet) (K : Act → World → Prop) : Ot → Act → World → Prop
  | .done, a, w => K a w
  | .non, _, _ => True
  | .p i r, a, w => ∃ v, Yields P l.toArray (nth l i) v a ∧ wpT P l bb K r (a.put (nth l i).dst v) w
  | .f i r, a, w => ∃ v, YieldsIf P l.toArray (fun w' => Fr bb w w') (nth l i) v a ∧ wpT P l bb K r (a.put (nth l i).dst v) w
  | .a i r, a, w => wpO P l.toArray (fun a' w' => wpT P l bb K r a' w') (nth l i) a w
  | .br i r o, a, w => wpO P l.toArray (fun a' w' => Fr bb w w' ∧ wpT P l bb K r a' w') (nth l i) a w ∧ wpT P l bb K o a w
def alts : Ot → List Nat
  | .br i _ o => i :: alts o
  | _ => []
def waitsT (ops : Array Oper) (N i : Nat) : Bool := (List.range ops.size).all fun j => Nat.blt j N || match ops[j]? with
  | some oj => oj.after.any fun e => Region.binds .any e && (e.on == i || match ops[e.on]? with
    | some ok => ok.after.any fun e' => Region.binds .any e' && e'.on == i
    | none => false)
  | none => true
def chkT (ops : Array Oper) (N : Nat) : Bool → Ot → Nat → Array Bool → Bool
  | true, .done, _, listed => (Region.ready .any ops listed).isEmpty
  | true, .p i r, n + 1, listed => (Region.ready .any ops listed).contains i && Region.free .any ops listed i && chkT ops N true r n (listed.setIfInBounds i true)
  | true, .f i r, n + 1, listed => (Region.ready .any ops listed).contains i && Region.free .any ops listed i && waitsT ops N i && chkT ops N true r n (listed.setIfInBounds i true)
  | true, .a i r, n + 1, listed => Region.ready .any ops listed == [i] && !Nat.blt i N && chkT ops N true r n (listed.setIfInBounds i true)
  | tp, .br i r o, n + 1, listed => (!tp || Region.ready .any ops listed == alts (.br i r o)) && Nat.blt i N && chkT ops N true r n (listed.setIfInBounds i true) && chkT ops N false o (n + 1) listed
  | false, .non, _, _ => true
  | _, _, _, _ => false
def Shut (ops : Array Oper) (listed : Array Bool) : Prop := ∀ k ok, ops[k]? = some ok → listed.getD k false = true → ∀ e ∈ ok.after, Region.binds .any e = true → listed.getD e.on false = true
theorem set_true {listed : Array Bool} {i j : Nat} (h : listed.getD j false = true) : (listed.setIfInBounds i true).getD j false = true := by
  by_cases hij : i = j
  · subst hij; rcases Nat.lt_or_ge i listed.size with h' | h'
    · simp [h']
    · simp [h'] at h
  · rw [getD_set_ne false hij]; exact h
theorem Shut.step {ops : Array Oper} {listed : Array Bool} {i : Nat} (h : Shut ops listed) (hr : i ∈ Region.ready .any ops listed) : Shut ops (listed.setIfInBounds i true) := fun k ok hk hl e he hb => by
  by_cases hik : i = k
  · subst hik
    obtain ⟨_, o, ho, hall⟩ := mem_ready.1 hr
    rw [hk] at ho; injection ho with ho; subst ho
    exact set_true (hall e he hb)
  · rw [getD_set_ne false hik] at hl; exact set_true (h k ok hk hl e he hb)
theorem Shut.start (ops : Array Oper) (n : Nat) : Shut ops (Array.replicate n false) := fun k ok _ hl => by
  rw [Array.getD_eq_getD_getElem?, Array.getElem?_replicate] at hl
  split at hl <;> cases hl
end Go.Own
namespace Go.Own
open Go.RowKit
variable {X : Ctx} {L : AL} {B : BL} {ops : Array Oper} {K : Act → World → Prop} {r : Pl} {k : Kd}
  {x y z : Operand} {d : Nat} {t t2 t' : TypeId} {pos : String} {af : Array Edge} {g : Option (Nat × Bool)}
def Sn (S : BSet) (B : BL) (ρ : Nat → Value) : BSet := fun k => S k ∧ ∀ i e, bget B i = some e → blk (ρ i) ≠ some k
structure Hp (S : BSet) (B : BL) (ρ : Nat → Value) (w : World) : Prop where
  ent : ∀ i e, bget B i = some e → e.ok (Sn S B ρ) w (ρ i)
  apart : ∀ i j e e', bget B i = some e → bget B j = some e' → i ≠ j → ∀ g, blk (ρ i) = some g → blk (ρ j) ≠ some g
def slots (S : BSet) (ρ : Nat → Value) (w : World) : List Sl → List Value → Prop
  | [], [] => True
  | s :: ss, v :: vs => s.p S ρ w v ∧ slots S ρ w ss vs
  | _, _ => False
theorem slots.length {S : BSet} {ρ : Nat → Value} {w : World} : ∀ {ss : List Sl} {vs : List Value}, slots S ρ w ss vs → vs.length = ss.length
  | [], [], _ => rfl
  | _ :: _, _ :: _, ⟨_, b⟩ => by simp [slots.length b]
  | [], _ :: _, h => h.elim
  | _ :: _, [], h => h.elim
def argS : Nat → List Sl → AL
  | _, [] => []
  | i, s :: ss => (i, s) :: argS (i + 1) ss
theorem look_argS {S : BSet} {ρ : Nat → Value} {w : World} : ∀ {ss : List Sl} {vs : List Value} {i d : Nat} {s : Sl}, slots S ρ w ss vs → look (argS i ss) d = some s → ∃ v, i ≤ d ∧ vs[d - i]? = some v ∧ s.p S ρ w v
  | [], [], _, _, _, _, hd => by cases hd
  | s :: ss, v :: vs, i, d, s', ⟨a, b⟩, hd => by
    simp only [argS] at hd
    by_cases h : i = d
    · subst h; rw [Xc] at hd; injection hd with hd; subst hd; exact ⟨v, Nat.le_refl _, by simp, a⟩
    · rw [X0 _ _ h] at hd
      obtain ⟨u, h1, h2, h3⟩ := look_argS b hd
      refine ⟨u, by omega, ?_, h3⟩
      obtain ⟨m, hm⟩ : ∃ m, d - i = m + 1 := ⟨d - i - 1, by omega⟩
      rw [hm, List.getElem?_cons_succ, ← h2]; congr 1; omega
  | [], _ :: _, _, _, _, h, _ => h.elim
  | _ :: _, [], _, _, _, h, _ => h.elim
def postM (S : BSet) (w0 : World) (ρ0 : Nat → Value) (B0 : BL) (fx : List Nat) {α : Type} (J : α → Prop) (R : α → Sl) (B1 : α → BL) : Ending → World → Prop := fun e w' =>
  ∃ v q ρ', e = .returned v ∧ J q ∧ (R q).p (Sn S (B1 q) ρ') ρ' w' v ∧ Hp S (B1 q) ρ' w' ∧ (∀ i ∈ fx, isBx (bget (B1 q) i) = true ∧ ρ' i = ρ0 i) ∧
    (∀ i e, bget (B1 q) i = some e → ∀ gb, blk (ρ' i) = some gb → w0.heap.size ≤ gb ∨ ∃ j f, bget B0 j = some f ∧ blk (ρ0 j) = some gb) ∧ Fr (fun k => ∃ j f, bget B0 j = some f ∧ blk (ρ0 j) = some k) w0 w'
def OkM (P : Program) (f : FuncId) (As : List Sl) (B0 : BL) (fx : List Nat) {α : Type} (J : α → Prop) (R : α → Sl) (B1 : α → BL) : Prop :=
  ∀ (S : BSet) (w : World) (ρ : Nat → Value) (vs : List Value), (∀ k, w.heap.size ≤ k → S k) → (∀ i e, bget B0 i = some e → ∀ gb, blk (ρ i) = some gb → S gb) → Hp S B0 ρ w → slots (Sn S B0 ρ) ρ w As vs →
    Calls P f vs.toArray w (postM S w ρ B0 fx J R B1)
abbrev lentM (P : Program) (n : Nat) (S : BSet) (w : World) (B0 : BL) (fx : List Nat) (ρ0 : Nat → Value) : Ctx := { P := P, n := n, S0 := S, w0 := w, bor := fun k => ∃ j f, bget B0 j = some f ∧ blk (ρ0 j) = some k, fix := fx.map fun i => (i, ρ0 i) }
theorem OkM.enter {P : Program} {f : FuncId} {fn : Func} {c : Code} {As : List Sl} {B0 : BL} {fx : List Nat} {α : Type} {J : α → Prop} {R : α → Sl} {B1 : α → BL} (hf : P.funcs[f]? = some fn) (hb : fn.body = some c) (n : Nat) (hn : fn.ntmps = n) (ha : Nat.ble As.length n = true) (hfx : ∀ i ∈ fx, isBx (bget B0 i) = true)
    (h : ∀ S w ρ0, (∀ gb, (lentM P n S w B0 fx ρ0).bor gb → S gb) → St (lentM P n S w B0 fx ρ0) (argS 0 As) B0 c (bodyPost P fn (postM S w ρ0 B0 fx J R B1))) : OkM P f As B0 fx J R B1 := by
  intro S w ρ vs hS hB hH hA; have hl := hA.length; have hle := Nat.le_of_ble_eq_true ha; refine calls_of_wp hf hb (h S w ρ (fun gb ⟨j, f, h1, h2⟩ => hB j f h1 gb h2) _ ρ w ?_); refine ⟨by simp [lentM, hn]; omega, rfl, fun d s hd => ?_, fun i e hi => ⟨hH.ent i e hi, fun gb hgb => .inr ⟨i, e, hi, hgb⟩⟩, hH.apart, ⟨rfl, rfl, rfl, Nat.le_refl _, fun _ _ _ => rfl, Nat.le_refl _⟩, hS, fun p hp => ?_⟩
  · obtain ⟨v, h1, h2, h3⟩ := look_argS hA hd; have hlt : d - 0 < vs.length := (List.getElem?_eq_some_iff.1 h2).1
    have : (vs.toArray ++ Array.replicate (fn.ntmps - vs.toArray.size) undef).getD d undef = v := by
      rw [Array.getD_eq_getD_getElem?, Array.getElem?_append_left (by simp; omega)]; simp only [Nat.sub_zero] at h2; simp [h2]
    rw [this]; exact h3
  · obtain ⟨i, hi, rfl⟩ := List.mem_map.1 hp; exact ⟨hfx i hi, rfl⟩
theorem Is.hp {a : Act} {ρ : Nat → Value} {w : World} (h : Is X L B a ρ w) : Hp X.S0 B ρ w := ⟨fun i e hi => (h.ent i e hi).1, h.apart⟩
section ret
variable {P : Program} {n : Nat} {S : BSet} {w0 : World} {B0 : BL} {fx : List Nat} {ρ0 : Nat → Value} {α : Type} {J : α → Prop} {R : α → Sl} {B1 : α → BL}
theorem Is.postM {a : Act} {ρ : Nat → Value} {w : World} {v : Value} (hI : Is (lentM P n S w0 B0 fx ρ0) L B a ρ w) (q : α) (hB : ∀ j, bget (B1 q) j = bget B j) (hJ : J q) (hv : (R q).p (Sof (lentM P n S w0 B0 fx ρ0) B ρ) ρ w v) : postM S w0 ρ0 B0 fx J R B1 (.returned v) w := by
  have hI' := hI.bext hB
  have e : Sn S (B1 q) ρ = Sof (lentM P n S w0 B0 fx ρ0) B ρ := by
    funext k
    exact propext ⟨fun h => ⟨h.1, fun i e hi => h.2 i e (by rw [hB]; exact hi)⟩, fun h => ⟨h.1, fun i e hi => h.2 i e (by rw [← hB]; exact hi)⟩⟩
  refine ⟨v, q, ρ, rfl, hJ, by rw [e]; exact hv, hI'.hp, fun i hi => ?_, fun i e hi gb hgb => (hI'.ent i e hi).2 gb hgb, hI.frame⟩; have := hI'.fixd (i, ρ0 i) (List.mem_map.2 ⟨i, hi, rfl⟩); exact this
end ret
theorem Z5 (A C : BL) (j : Nat) : bget (A ++ C) j = (bget A j).or (bget C j) := by
  induction A with
  | nil => rfl
  | cons p A ih =>
    obtain ⟨i, e⟩ := p; by_cases h : i = j
    · subst h; rw [List.cons_append, XV, XV]; rfl
    · rw [List.cons_append, Xq _ _ h, Xq _ _ h, ih]
def evS (L : AL) : List Operand → Option (List Sl)
  | [] => some []
  | x :: xs => match ev L x, evS L xs with
    | some s, some ss => some (s :: ss)
    | _, _ => none
theorem Is.evS {a : Act} {ρ : Nat → Value} {w : World} (h : Is X L B a ρ w) : ∀ {xs : List Operand} {ss : List Sl}, Own.evS L xs = some ss → slots (Sof X B ρ) ρ w ss (xs.map a.eval)
  | [], ss, he => by simp only [Own.evS] at he; injection he with he; subst he; trivial
  | x :: xs, ss, he => by
    simp only [Own.evS] at he
    split at he
    · rename_i c cs' h1 h2
      injection he with he; subst he
      exact ⟨h.ev h1, h.evS h2⟩
    · cases he
def Sl.keepN (kp : Nat → Bool) : Sl → Sl
  | .own j => if kp j then .own j else .any
  | .loc j o => if kp j then .loc j o else .any
  | s => s
def keepL (kp : Nat → Bool) : AL → AL
  | [] => []
  | (d, s) :: L => (d, s.keepN kp) :: keepL kp L
theorem look_keepL (kp : Nat → Bool) (L : AL) (d : Nat) : look (keepL kp L) d = (look L d).map (Sl.keepN kp) := by
  induction L with
  | nil => rfl
  | cons x L ih =>
    obtain ⟨k, s⟩ := x; by_cases hk : k = d
    · subst hk; simp [keepL, look]
    · simp only [keepL]; rw [X0 _ _ hk, X0 _ _ hk, ih]
def someB (o : Option Ent) : Bool := o.isSome
set_option maxHeartbeats 1000000 in
theorem Is.afterM {a : Act} {ρ : Nat → Value} {w : World} (hI : Is X L B a ρ w) {B0 C : BL} {fx : List Nat} {α : Type} {R : α → Sl} {B1 : α → BL} (kp : Nat → Bool) (hB : ∀ j, bget B j = bget (B0 ++ C) j) (hC : ∀ j, (bget C j).isSome = true → bget B0 j = none)
    {S : BSet} (hSdef : S = fun k => X.S0 k ∧ ∀ i e, bget C i = some e → blk (ρ i) ≠ some k) {q : α} (hC1 : ∀ j, (bget C j).isSome = true → bget (B1 q) j = none) (hkp : ∀ j, kp j = true → j ∈ fx ∨ bget (B1 q) j = none) (hfix : ∀ p ∈ X.fix, (bget C p.1).isSome = true ∨ p.1 ∈ fx)
    {v : Value} {ρ' : Nat → Value} {w' : World} (hv : (R q).p (Sn S (B1 q) ρ') ρ' w' v) (hH : Hp S (B1 q) ρ' w') (hfx : ∀ i ∈ fx, isBx (bget (B1 q) i) = true ∧ ρ' i = ρ i)
    (hnew : ∀ i e, bget (B1 q) i = some e → ∀ gb, blk (ρ' i) = some gb → w.heap.size ≤ gb ∨ ∃ j f, bget B0 j = some f ∧ blk (ρ j) = some gb) (hF : Fr (fun k => ∃ j f, bget B0 j = some f ∧ blk (ρ j) = some k) w w') (hRk : ∀ j, (R q = .own j ∨ ∃ o, R q = .loc j o) → (bget (B1 q) j).isSome = true) :
    Is X (keepL kp L) (B1 q ++ C) a (fun j => if (bget (B1 q) j).isSome then ρ' j else ρ j) w' ∧ (R q).p (Sof X (B1 q ++ C) (fun j => if (bget (B1 q) j).isSome then ρ' j else ρ j)) (fun j => if (bget (B1 q) j).isSome then ρ' j else ρ j) w' v := by
  have c0 : ∀ j e, bget B0 j = some e → bget B j = some e := fun j e h => by rw [hB, Z5, h]; rfl
  have cC : ∀ j e, bget C j = some e → bget B j = some e := fun j e h => by rw [hB, Z5, hC j (by rw [h]; rfl), h]; rfl
  have split : ∀ j e, bget (B1 q ++ C) j = some e → (bget (B1 q) j = some e) ∨ (bget (B1 q) j = none ∧ bget C j = some e) := fun j e h => by
    rw [Z5] at h
    cases h1 : bget (B1 q) j with
    | none => rw [h1] at h; exact .inr ⟨rfl, h⟩
    | some e1 => rw [h1] at h; exact .inl h
  have r1 : ∀ j e, bget (B1 q) j = some e → (if (bget (B1 q) j).isSome then ρ' j else ρ j) = ρ' j := fun j e h => by rw [h]; rfl
  have r2 : ∀ j, bget (B1 q) j = none → (if (bget (B1 q) j).isSome then ρ' j else ρ j) = ρ j := fun j h => by rw [h]; rfl
  have hSof : Sof X (B1 q ++ C) (fun j => if (bget (B1 q) j).isSome then ρ' j else ρ j) = Sn S (B1 q) ρ' := by
    funext k
    refine propext ⟨fun h => ⟨?_, fun i e hi => ?_⟩, fun h => ⟨?_, fun i e hi => ?_⟩⟩
    · rw [hSdef]; refine ⟨h.1, fun i e hi => ?_⟩; have hn := hC1 i (by rw [hi]; rfl); have := h.2 i e (by rw [Z5, hn]; exact hi); simp only [r2 i hn] at this; exact this
    · have := h.2 i e (by rw [Z5, hi]; rfl); simp only [r1 i e hi] at this; exact this
    · have := h.1; rw [hSdef] at this; exact this.1
    · rcases split i e hi with h1 | ⟨h1, h2⟩
      · simp only [r1 i e h1]; exact h.2 i e h1
      · simp only [r2 i h1]; have := h.1; rw [hSdef] at this; exact this.2 i e h2
  have hKp : Kp (Sof X B ρ) (Sn S (B1 q) ρ') w w' := ⟨hF.size, fun k hk hs => by
    have hn0 : ¬ ∃ j f, bget B0 j = some f ∧ blk (ρ j) = some k := fun ⟨j, f, h1, h2⟩ => hs.2 j f (c0 j f h1) h2
    refine ⟨⟨?_, fun i e hi hbk => ?_⟩, hF.block k hk hn0⟩
    · rw [hSdef]; exact ⟨hs.1, fun i e hi => hs.2 i e (cC i e hi)⟩
    · rcases hnew i e hi k hbk with h1 | h1
      · omega
      · exact hn0 h1⟩
  have hCk : ∀ j e, bget C j = some e → ∀ gb, blk (ρ j) = some gb → gb < w.heap.size ∧ (¬ ∃ i f, bget B0 i = some f ∧ blk (ρ i) = some gb) := fun j e hj gb hgb => by
    refine ⟨hI.lt (cC j e hj) hgb, fun ⟨i, f, h1, h2⟩ => ?_⟩
    have hij : i ≠ j := fun he => by subst he; rw [hC i (by rw [hj]; rfl)] at h1; cases h1
    exact hI.apart i j f e (c0 i f h1) (cC j e hj) hij gb h2 hgb
  refine ⟨⟨hI.size, hI.defers, fun d s hd => ?_, fun i e hi => ?_, fun i j e e' hi hj hij gb hgb => ?_, ⟨hF.os.trans hI.frame.os, hF.tape.trans hI.frame.tape, hF.output.trans hI.frame.output, Nat.le_trans hI.frame.size hF.size, fun k hk hn => ?_, Nat.le_trans hI.frame.drawn hF.drawn⟩, hI.fresh, fun p hp => ?_⟩, ?_⟩
  · rw [look_keepL] at hd
    cases h1 : look L d with
    | none => rw [h1] at hd; cases hd
    | some s0 =>
      rw [h1] at hd
      injection hd with hd
      subst hd; have h2 := hI.slot d s0 h1; rw [hSof]
      have kept : ∀ j, kp j = true → (if (bget (B1 q) j).isSome then ρ' j else ρ j) = ρ j := fun j hj => by
        rcases hkp j hj with h3 | h3
        · have := (hfx j h3).2; split
          · exact this
          · rfl
        · exact r2 j h3
      cases s0 with
      | ct c => exact CT.mono hKp h2
      | any => trivial
      | own j =>
        simp only [Sl.keepN]; split
        · rename_i hj
          show _ = (if (bget (B1 q) j).isSome then ρ' j else ρ j); rw [kept j hj]; exact h2
        · trivial
      | loc j o =>
        simp only [Sl.keepN]; split
        · rename_i hj
          obtain ⟨gb, h3, h4⟩ := h2; exact ⟨gb, by simp only [kept j hj]; exact h3, h4⟩
        · trivial
  · rw [hSof]; rcases split i e hi with h1 | ⟨h1, h2⟩
    · simp only [r1 i e h1]; refine ⟨hH.ent i e h1, fun gb hgb => ?_⟩; rcases hnew i e h1 gb hgb with h3 | ⟨j, f, h3, h4⟩
      · exact .inl (Nat.le_trans hI.frame.size h3)
      · exact (hI.ent j f (c0 j f h3)).2 gb h4
    · simp only [r2 i h1]; have h3 := hI.ent i e (cC i e h2); refine ⟨Ent.keep hKp (fun gb hgb hlt => hF.block gb hlt (hCk i e h2 gb hgb).2) h3.1, h3.2⟩
  · rcases split i e hi with h1 | ⟨h1, h2⟩ <;> rcases split j e' hj with h3 | ⟨h3, h4⟩
    · simp only [r1 i e h1] at hgb; simp only [r1 j e' h3]; exact hH.apart i j e e' h1 h3 hij gb hgb
    · simp only [r1 i e h1] at hgb; simp only [r2 j h3]; intro hgj; have := hCk j e' h4 gb hgj; rcases hnew i e h1 gb hgb with h5 | h5
      · omega
      · exact this.2 h5
    · simp only [r2 i h1] at hgb; simp only [r1 j e' h3]; intro hgj; have := hCk i e h2 gb hgb; rcases hnew j e' h3 gb hgj with h5 | h5
      · omega
      · exact this.2 h5
    · simp only [r2 i h1] at hgb; simp only [r2 j h3]; exact hI.apart i j e e' (cC i e h2) (cC j e' h4) hij gb hgb
  · have hn0 : ¬ ∃ j f, bget B0 j = some f ∧ blk (ρ j) = some k := fun ⟨j, f, h1, h2⟩ => by
      rcases (hI.ent j f (c0 j f h1)).2 k h2 with h3 | h3
      · omega
      · exact hn h3
    rw [hF.block k (Nat.lt_of_lt_of_le hk hI.frame.size) hn0]; exact hI.frame.block k hk hn
  · have h0 := hI.fixd p hp; rcases hfix p hp with h1 | h1
    · have hn := hC1 p.1 h1; refine ⟨?_, ?_⟩
      · rw [Z5, hn]
        have h2 : bget B p.1 = bget C p.1 := by
          cases h3 : bget C p.1 with
          | none => rw [h3] at h1; cases h1
          | some e => exact cC _ _ h3
        rw [← h2]; exact h0.1
      · simp only [r2 p.1 hn]; exact h0.2
    · have h2 := hfx p.1 h1
      have h3 : ∃ e, bget (B1 q) p.1 = some e := by
        cases h4 : bget (B1 q) p.1 with
        | none => rw [h4] at h2; exact absurd h2.1 (by simp [isBx])
        | some e => exact ⟨e, rfl⟩
      obtain ⟨e, h3⟩ := h3; refine ⟨?_, ?_⟩
      · have : bget (B1 q ++ C) p.1 = bget (B1 q) p.1 := by rw [Z5, h3]; rfl
        rw [this]; exact h2.1
      · simp only [r1 p.1 e h3]; rw [h2.2]; exact h0.2
  · rw [hSof]
    cases h : R q with
    | ct c => rw [h] at hv; exact hv
    | any => trivial
    | own j =>
      rw [h] at hv; obtain ⟨e, he⟩ := Option.isSome_iff_exists.1 (hRk j (.inl h)); show v = _; simp only [r1 j e he]; exact hv
    | loc j o =>
      rw [h] at hv; obtain ⟨e, he⟩ := Option.isSome_iff_exists.1 (hRk j (.inr ⟨o, h⟩)); obtain ⟨gb, h3, h4⟩ := hv; exact ⟨gb, by simp only [r1 j e he]; exact h3, h4⟩
theorem Ops.callM {f : FuncId} {args : List Operand} {tys : Array TypeId} {As : List Sl} {B0 : BL} {fx : List Nat} {α : Type} {J : α → Prop} {R : α → Sl} {B1 : α → BL} (C : BL) (kp : Nat → Bool) (hgo : InGo X.P f) (hok : OkM X.P f As B0 fx J R B1) (hg : gd ops L g = some true) (hargs : evS L args = some As) (hn : Nat.blt d X.n = true)
    (hbor : ∀ gb, X.bor gb → X.S0 gb) (hB : ∀ j, bget B j = bget (B0 ++ C) j) (hC : ∀ j, (bget C j).isSome = true → bget B0 j = none ∧ ∀ q, bget (B1 q) j = none) (hkp : ∀ j, kp j = true → j ∈ fx ∨ ∀ q, bget (B1 q) j = none) (hfix : ∀ p ∈ X.fix, (bget C p.1).isSome = true ∨ p.1 ∈ fx)
    (hRk : ∀ q j, (R q = .own j ∨ ∃ o, R q = .loc j o) → (bget (B1 q) j).isSome = true)
    (h : ∀ q, J q → Ops X ops r ((d, R q) :: keepL kp L) (B1 q ++ C) K) : Ops X ops (.cons ⟨some d, .call { callee := .value (.func f), args := args.toArray, argTypes := tys }, t, pos, af, g⟩ .any r) L B K := fun a ρ w hI => by
  show wpO _ _ _ _ _ _
  unfold wpO
  rw [if_pos (Zu (o := ⟨some d, _, t, pos, af, g⟩) hI hg)]
  unfold Oper.wp
  have hrun : (execOp a.eval ⟨some d, .call { callee := .value (.func f), args := args.toArray, argTypes := tys }, t, pos, af, g⟩).run X.P w = .ok (.enter f (args.map a.eval).toArray) w := by
    show (do let D ← resolve a.eval { callee := .value (.func f), args := args.toArray, argTypes := tys } t; invoke D.target D.args : Sem Next).run X.P w = _; have hf : a.eval (.func f) = .func (.func f) #[] #[] := rfl; simp only [resolve, hf, Deferred.ofValue, Sem.run_bind, Sem.run_pure, Result.andThen_ok, invoke]; rw [hgo]
    congr 2
    simp
  rw [hrun]
  have c0 : ∀ j e, bget B0 j = some e → bget B j = some e := fun j e h => by rw [hB, Z5, h]; rfl
  have cC : ∀ j e, bget C j = some e → bget B j = some e := fun j e h => by rw [hB, Z5, (hC j (by rw [h]; rfl)).1, h]; rfl
  have hS0 : ∀ j e, bget B j = some e → ∀ gb, blk (ρ j) = some gb → X.S0 gb := fun j e hj gb hgb => by
    rcases (hI.ent j e hj).2 gb hgb with h1 | h1
    · exact hI.fresh gb h1
    · exact hbor gb h1
  have hSn : Sn (fun k => X.S0 k ∧ ∀ i e, bget C i = some e → blk (ρ i) ≠ some k) B0 ρ = Sof X B ρ := by
    funext k
    refine propext ⟨fun h => ⟨h.1.1, fun i e hi => ?_⟩, fun h => ⟨⟨h.1, fun i e hi => h.2 i e (cC i e hi)⟩, fun i e hi => h.2 i e (c0 i e hi)⟩⟩; rw [hB, Z5] at hi
    cases h1 : bget B0 i with
    | none => rw [h1] at hi; exact h.1.2 i e hi
    | some e1 => rw [h1] at hi; exact h.2 i e (by rw [h1]; exact hi)
  refine Calls.mono (hok (fun k => X.S0 k ∧ ∀ i e, bget C i = some e → blk (ρ i) ≠ some k) w ρ _ (fun k hk => ⟨hI.fresh k (Nat.le_trans hI.frame.size hk), fun i e hi hbk => ?_⟩) (fun i e hi gb hgb => ⟨hS0 i e (c0 i e hi) gb hgb, fun j f hj hbk => ?_⟩) ⟨fun i e hi => ?_, fun i j e e' hi hj => hI.apart i j e e' (c0 i e hi) (c0 j e' hj)⟩ (by rw [hSn]; exact hI.evS hargs)) ?_
  · have := hI.lt (cC i e hi) hbk; omega
  · have hij : i ≠ j := fun he => by subst he; rw [(hC i (by rw [hj]; rfl)).1] at hi; cases hi
    exact hI.apart i j e f (c0 i e hi) (cC j f hj) hij gb hgb hbk
  · rw [hSn]; exact (hI.ent i e (c0 i e hi)).1
  · rintro e w' ⟨v, q, ρ', rfl, hJ, hv, hH, hfx, hnew, hF⟩
    have := hI.afterM kp hB (fun j hj => (hC j hj).1) Y (fun j hj => (hC j hj).2 q) (fun j hj => (hkp j hj).imp id (fun h => h q)) hfix hv hH hfx hnew hF (hRk q); exact h q hJ _ _ w' (this.1.put (s := R q) (Xh hn) this.2)
end Go.Own
namespace Go.Own
open Go.RowKit
def wpAnyL (P : Program) (ops : Array Oper) (K : Act → World → Prop) (late : List Nat) : Nat → Array Bool → Act → World → Prop
  | 0, listed, a, w => Region.ready .any ops listed = [] ∧ K a w
  | fuel + 1, listed, a, w => (Region.ready .any ops listed = [] → K a w) ∧
      ∀ i ∈ Region.ready .any ops listed, wpOp P ops (only K) i (fun a' w' => (late.contains i = false → Below w.heap.size w w') ∧ wpAnyL P ops K late fuel (listed.setIfInBounds i true) a' w') a w
theorem wpAny_of_L {P : Program} {ops : Array Oper} {K : Act → World → Prop} {late : List Nat} : ∀ (fuel : Nat) (listed : Array Bool) (a : Act) (w : World), wpAnyL P ops K late fuel listed a w → wpAny P .any ops (only K) fuel listed a w
  | 0, _, _, _, h => h
  | fuel + 1, _, _, _, h => ⟨h.1, fun i hi => wpOp_mono (fun a' w' h' => wpAny_of_L fuel _ a' w' h'.2) (h.2 i hi)⟩
def needs (ops : Array Oper) (i : Nat) : Nat → Nat → Bool
  | 0, _ => false
  | n + 1, j => match ops[j]? with
    | some oj => oj.after.any fun e => Region.binds .any e && (e.on == i || needs ops i n e.on)
    | none => false
def waitsL (ops : Array Oper) (late : List Nat) (listed : Array Bool) (i : Nat) : Bool := late.all fun j => listed.getD j true || needs ops i ops.size j
theorem needs_spec {ops : Array Oper} {i : Nat} {listed : Array Bool} (hs : Shut ops listed) : ∀ (n j : Nat), needs ops i n j = true → (∀ oj, ops[j]? = some oj → ∀ e ∈ oj.after, Region.binds .any e = true → listed.getD e.on false = true) → listed.getD i false = true
  | 0, _, h, _ => by cases h
  | n + 1, j, h, hj => by
    simp only [needs] at h
    cases ho : ops[j]? with
    | none => rw [ho] at h; cases h
    | some oj =>
      rw [ho] at h
      obtain ⟨e, he, hb⟩ := Array.any_eq_true'.1 h
      simp only [Bool.and_eq_true, Bool.or_eq_true, beq_iff_eq] at hb
      have hl := hj oj ho e he hb.1
      rcases hb.2 with h2 | h2
      · rw [← h2]; exact hl
      · exact needs_spec hs n e.on h2 (fun ok hk e' he' hb' => hs e.on ok hk hl e' he' hb')
theorem waitsL_spec {ops : Array Oper} {late : List Nat} {listed0 listed : Array Bool} {i : Nat} (h : waitsL ops late listed0 i = true) (hm : ∀ j, listed0.getD j true = true → listed.getD j true = true) (hs : Shut ops listed) (hi : listed.getD i false = false) {j : Nat} (hj : j ∈ Region.ready .any ops listed) : late.contains j = false := by
  cases hl : late.contains j with
  | false => rfl
  | true =>
    exfalso; obtain ⟨hun, oj, hoj, hall⟩ := mem_ready.1 hj; simp only [waitsL, List.all_eq_true] at h; have h1 := h j (by simpa using hl); rw [Bool.or_eq_true] at h1; rcases h1 with h1 | h1
    · rw [hm j h1] at hun; cases hun
    · have := needs_spec hs _ j h1 (fun ok hk e he hb => by rw [hoj] at hk; injection hk with hk; subst hk; exact hall e he hb); rw [this] at hi; cases hi
theorem getD_mono {listed : Array Bool} {i j : Nat} (h : listed.getD j true = true) : (listed.setIfInBounds i true).getD j true = true := by
  by_cases hij : i = j
  · subst hij; rcases Nat.lt_or_ge i listed.size with h' | h'
    · simp [h']
    · simp [h']
  · rw [getD_set_ne true hij]; exact h
theorem wpAnyL_first {P : Program} {ops : Array Oper} {K : Act → World → Prop} {late : List Nat} {i : Nat} {oi : Oper} {v : Value} {listed0 : Array Bool} (hi : ops[i]? = some oi)
    (hsel : ∀ (j : Nat) (o : Oper) cs b, ops[j]? = some o → o.op ≠ .select cs b) (htail : waitsL ops late listed0 i = true) :
    ∀ (fuel : Nat) (listed : Array Bool) (a : Act) (w : World), Shut ops listed → (∀ j, listed0.getD j true = true → listed.getD j true = true) →
      (∀ j oj, ops[j]? = some oj → j ≠ i → listed.getD j true = false → (∀ e ∈ oj.after, Region.binds .any e = true → e.on ≠ i) → oi.apart ops oj = true) →
      i ∈ Region.ready .any ops listed → YieldsIf P ops (fun x => Below w.heap.size w x) oi v a →
      wpAnyL P ops K late fuel (listed.setIfInBounds i true) (a.put oi.dst v) w → wpAnyL P ops K late (fuel + 1) listed a w := by
  intro fuel
  induction fuel with
  | zero =>
    intro listed a w _ _ _ hr hy H; refine ⟨fun h => (by rw [h] at hr; cases hr), fun j hj => ?_⟩; by_cases hji : j = i
    · subst hji; exact hy.wpOp hi (Below.refl _ _) ⟨fun _ => Below.refl _ _, H⟩
    · have := ready_mono hj hji; rw [H.1] at this; cases this
  | succ fuel ih =>
    intro listed a w hsh hm hfree hr hy H; refine ⟨fun h => (by rw [h] at hr; cases hr), fun j hj => ?_⟩; by_cases hji : j = i
    · subst hji; exact hy.wpOp hi (Below.refl _ _) ⟨fun _ => Below.refl _ _, H⟩
    · have h1 := H.2 j (ready_mono hj hji); obtain ⟨hjun, oj, hoj, hall⟩ := mem_ready.1 hj
      have hun : listed.getD i false = false := by
        have h0 := (mem_ready.1 hr).1; rcases Nat.lt_or_ge i listed.size with h' | h'
        · simpa [h'] using h0
        · simp [h'] at h0
      have hnot : ∀ e ∈ oj.after, Region.binds .any e = true → e.on ≠ i := fun e he hb heq => by
        have h1 := hall e he hb; rw [heq, hun] at h1; cases h1
      have hjN : late.contains j = false := waitsL_spec htail hm hsh hun hj; have h2 := wpOp_putIf hoj (hfree j oj hoj hji hjun hnot) (fun cs b => hsel i oi cs b hi) (fun cs b => hsel j oj cs b hoj) (fun _ _ _ h => h.elim) hy h1
      have hfree' : ∀ k ok, ops[k]? = some ok → k ≠ i → (listed.setIfInBounds j true).getD k true = false →
          (∀ e ∈ ok.after, Region.binds .any e = true → e.on ≠ i) → oi.apart ops ok = true := fun k ok hk hki hun hno => by
        refine hfree k ok hk hki ?_ hno
        by_cases hjk : j = k
        · subst hjk; exact hjun
        · rw [getD_set_ne true hjk] at hun; exact hun
      refine wpOp_mono (fun a' w' h3 => ⟨h3.2.1, ih (listed.setIfInBounds j true) a' w' (hsh.step hj) (fun q hq => getD_mono (hm q hq)) hfree' (ready_mono hr (Ne.symm hji)) (yields_later h3.1 (h3.2.1 hjN)) ?_⟩) h2; rw [Array.setIfInBounds_comm _ _ hji]; exact h3.2.2
theorem wpAnyL_firstP {P : Program} {ops : Array Oper} {K : Act → World → Prop} {late : List Nat} {i : Nat} {oi : Oper} {v : Value} (hi : ops[i]? = some oi)
    (hsel : ∀ (j : Nat) (o : Oper) cs b, ops[j]? = some o → o.op ≠ .select cs b) :
    ∀ (fuel : Nat) (listed : Array Bool) (a : Act) (w : World),
      (∀ j oj, ops[j]? = some oj → j ≠ i → listed.getD j true = false → (∀ e ∈ oj.after, Region.binds .any e = true → e.on ≠ i) → oi.apart ops oj = true) →
      i ∈ Region.ready .any ops listed → Yields P ops oi v a →
      wpAnyL P ops K late fuel (listed.setIfInBounds i true) (a.put oi.dst v) w → wpAnyL P ops K late (fuel + 1) listed a w := by
  intro fuel
  induction fuel with
  | zero =>
    intro listed a w _ hr hy H; refine ⟨fun h => (by rw [h] at hr; cases hr), fun j hj => ?_⟩; by_cases hji : j = i
    · subst hji; exact hy.wpOp hi ⟨fun _ => Below.refl _ _, H⟩
    · have := ready_mono hj hji; rw [H.1] at this; cases this
  | succ fuel ih =>
    intro listed a w hfree hr hy H; refine ⟨fun h => (by rw [h] at hr; cases hr), fun j hj => ?_⟩; by_cases hji : j = i
    · subst hji; exact hy.wpOp hi ⟨fun _ => Below.refl _ _, H⟩
    · have h1 := H.2 j (ready_mono hj hji); obtain ⟨hjun, oj, hoj, hall⟩ := mem_ready.1 hj
      have hnot : ∀ e ∈ oj.after, Region.binds .any e = true → e.on ≠ i := fun e he hb heq => by
        have h1 := hall e he hb; have h0 := (mem_ready.1 hr).1; rw [heq] at h1; rcases Nat.lt_or_ge i listed.size with h' | h'
        · simp [h'] at h0 h1; rw [h0] at h1; cases h1
        · simp [Array.getElem?_eq_none h'] at h1
      have h2 := wpOp_put hoj (hfree j oj hoj hji hjun hnot) (fun cs b => hsel i oi cs b hi) (fun cs b => hsel j oj cs b hoj) (fun _ _ _ h => h.elim) hy h1
      have hfree' : ∀ k ok, ops[k]? = some ok → k ≠ i → (listed.setIfInBounds j true).getD k true = false →
          (∀ e ∈ ok.after, Region.binds .any e = true → e.on ≠ i) → oi.apart ops ok = true := fun k ok hk hki hun hno => by
        refine hfree k ok hk hki ?_ hno
        by_cases hjk : j = k
        · subst hjk; exact hjun
        · rw [getD_set_ne true hjk] at hun; exact hun
      refine wpOp_mono (fun a' w' h3 => ⟨h3.2.1, ih (listed.setIfInBounds j true) a' w' hfree' (ready_mono hr (Ne.symm hji)) h3.1 ?_⟩) h2; rw [Array.setIfInBounds_comm _ _ hji]; exact h3.2.2
def chkL (ops : Array Oper) (late : List Nat) : Od → Nat → Array Bool → Bool
  | .done, _, listed => (Region.ready .any ops listed).isEmpty
  | _, 0, _ => false
  | .p i r, n + 1, listed => (Region.ready .any ops listed).contains i && Region.free .any ops listed i && chkL ops late r n (listed.setIfInBounds i true)
  | .f i r, n + 1, listed => (Region.ready .any ops listed).contains i && Region.free .any ops listed i && waitsL ops late listed i && chkL ops late r n (listed.setIfInBounds i true)
  | .m i r, n + 1, listed => Region.ready .any ops listed == [i] && !late.contains i && chkL ops late r n (listed.setIfInBounds i true)
  | .a i r, n + 1, listed => Region.ready .any ops listed == [i] && late.contains i && chkL ops late r n (listed.setIfInBounds i true)
  | .fork i r j s, n + 1, listed => Region.ready .any ops listed == [i, j] && !late.contains i && !late.contains j && chkL ops late r n (listed.setIfInBounds i true) && chkL ops late s n (listed.setIfInBounds j true)
variable {X : Ctx} {L : AL} {B : BL}
end Go.Own
namespace Go.Own
open Go.RowKit
variable {X : Ctx} {L : AL} {B : BL} {ops : Array Oper} {K : Act → World → Prop} {r : Pl} {k : Kd}
  {x y z : Operand} {d : Nat} {t t2 t' : TypeId} {pos : String} {af : Array Edge} {g : Option (Nat × Bool)}
theorem Xo {c y : Code} {Q : Exit → Act → World → Prop} {α : Type} (J : α → Prop) (Lx : α → AL) (Bx : α → BL) (h1 : ∀ q, J q → St X (Lx q) (Bx q) y Q)
    (h2 : ∀ K : Exit → Act → World → Prop, (∀ q, J q → Fin X (Lx q) (Bx q) (fun a w => K .normal a w)) → St X L B c K) : St X L B c (Exit.then (y.wp X.P Q) Q) :=
  h2 _ (fun q hq => h1 q hq)
theorem Fin.nameS (dd i m : Nat) {el n : Nat} {cs : List CT} (hd : look L dd = some (.own i)) (hi : bget B i = some (.row el n cs)) (hl : cs.length = m * n) (hm : 0 < m) (hp : 0 < n)
    (h : ∀ gb c, m ≤ c → c ≤ maxLen → Fin X ((dd, .ct (.ex (.slice (some ⟨gb, 0, none⟩) m c))) :: L) (bset B i (.rowx (.slice (some ⟨gb, 0, none⟩) m c) el n cs)) K) : Fin X L B K := fun a ρ w hI => by
  have h1 : a.tmps.getD dd undef = ρ i := hI.slot dd _ hd
  obtain ⟨n', vs, how, hc⟩ := (hI.ent i _ hi).1
  have hl' := hc.length
  rw [how.1, hl] at hl'
  have hnm : n' = m := Nat.eq_of_mul_eq_mul_right hp hl'
  subst hnm
  rcases how.2 with ⟨h2, h3⟩ | ⟨gb, cap, cur, h2, h3, h4, h5, h6⟩
  · omega
  · have hx : (Ent.rowx (.slice (some ⟨gb, 0, none⟩) n' cap) el n cs).ok (Sof X B ρ) w (ρ i) := ⟨h2, n', vs, how, hc⟩
    refine h gb cap (by omega) ?_ a ρ w ((hI.retype (e' := .rowx (.slice (some ⟨gb, 0, none⟩) n' cap) el n cs) hi hx rfl).slotx (s := .ct (.ex _)) (h1.trans h2))
    omega
end Go.Own
namespace Go.Own
open Go.RowKit
inductive Oq where
  | done
  | non
  | p (i : Nat) (r : Oq)
  | f (i : Nat) (r : Oq)
  | m (i : Nat) (r o : Oq)
  | a (i : Nat) (r o : Oq)
def wpQ (P : Program) (l : List Oper) (K : Act → World → Prop) : Oq → Act → World → Prop
  | .done, a, w => K a w
  | .non, _, _ => True
  | .p i r, a, w => ∃ v, Yields P l.toArray (nth l i) v a ∧ wpQ P l K r (a.put (nth l i).dst v) w
  | .f i r, a, w => ∃ v, YieldsIf P l.toArray (fun w' => Below w.heap.size w w') (nth l i) v a ∧ wpQ P l K r (a.put (nth l i).dst v) w
  | .m i r o, a, w => wpO P l.toArray (fun a' w' => Below w.heap.size w w' ∧ wpQ P l K r a' w') (nth l i) a w ∧ wpQ P l K o a w
  | .a i r o, a, w => wpO P l.toArray (fun a' w' => wpQ P l K r a' w') (nth l i) a w ∧ wpQ P l K o a w
def altsQ : Oq → List Nat
  | .m i _ o => i :: altsQ o
  | .a i _ o => i :: altsQ o
  | _ => []
def chkQ (ops : Array Oper) (late : List Nat) : Bool → Oq → Nat → Array Bool → Bool
  | true, .done, _, listed => (Region.ready .any ops listed).isEmpty
  | true, .p i r, n + 1, listed => (Region.ready .any ops listed).contains i && Region.free .any ops listed i && chkQ ops late true r n (listed.setIfInBounds i true)
  | true, .f i r, n + 1, listed => (Region.ready .any ops listed).contains i && Region.free .any ops listed i && waitsL ops late listed i && chkQ ops late true r n (listed.setIfInBounds i true)
  | tp, .m i r o, n + 1, listed => (!tp || Region.ready .any ops listed == altsQ (.m i r o)) && !late.contains i && chkQ ops late true r n (listed.setIfInBounds i true) && chkQ ops late false o (n + 1) listed
  | tp, .a i r o, n + 1, listed => (!tp || Region.ready .any ops listed == altsQ (.a i r o)) && late.contains i && chkQ ops late true r n (listed.setIfInBounds i true) && chkQ ops late false o (n + 1) listed
  | false, .non, _, _ => true
  | _, _, _, _ => false
theorem anyL_ofQ {P : Program} {l : List Oper} {K : Act → World → Prop} {late : List Nat} (hs : Region.noSelect l.toArray = true) :
    ∀ (ord : Oq) (fuel : Nat) (listed : Array Bool) (a : Act) (w : World), Shut l.toArray listed →
      (chkQ l.toArray late true ord fuel listed = true → wpQ P l K ord a w → wpAnyL P l.toArray K late fuel listed a w) ∧
      (∀ f, fuel = f + 1 → chkQ l.toArray late false ord fuel listed = true → wpQ P l K ord a w → ∀ j ∈ altsQ ord, j ∈ Region.ready .any l.toArray listed → wpOp P l.toArray (only K) j (fun a' w' => (late.contains j = false → Below w.heap.size w w') ∧ wpAnyL P l.toArray K late f (listed.setIfInBounds j true) a' w') a w) := by
  have hidx : ∀ {listed : Array Bool} {i : Nat}, i ∈ Region.ready .any l.toArray listed → l.toArray[i]? = some (nth l i) := fun h => nth_eq (by simpa using ready_lt h)
  intro ord
  induction ord with
  | done =>
    intro fuel listed a w _; refine ⟨fun hc h => ?_, fun f hf hc h j hj => by cases hj⟩
    have hr : Region.ready .any l.toArray listed = [] := by
      cases fuel <;> simpa [chkQ] using hc
    cases fuel with
    | zero => exact ⟨hr, h⟩
    | succ f => exact ⟨fun _ => h, by rw [hr]; simp⟩
  | non => intro fuel listed a w _; exact ⟨fun hc h => by simp [chkQ] at hc, fun f hf hc h j hj => by cases hj⟩
  | p i r ih =>
    intro fuel listed a w hsh; refine ⟨fun hc h => ?_, fun f hf hc h j hj => by cases hj⟩
    cases fuel with
    | zero => simp [chkQ] at hc
    | succ f =>
      simp only [chkQ, Bool.and_eq_true] at hc; obtain ⟨⟨hr, hfr⟩, hc2⟩ := hc
      have hr' : i ∈ Region.ready .any l.toArray listed := by simpa using hr
      obtain ⟨v, hy, h⟩ := h; exact wpAnyL_firstP (hidx hr') (Region.noSelect_spec hs) f listed a w (Region.free_spec (hidx hr') hfr) hr' hy ((ih f _ _ _ (hsh.step hr')).1 hc2 h)
  | f i r ih =>
    intro fuel listed a w hsh; refine ⟨fun hc h => ?_, fun f hf hc h j hj => by cases hj⟩
    cases fuel with
    | zero => simp [chkQ] at hc
    | succ f =>
      simp only [chkQ, Bool.and_eq_true] at hc; obtain ⟨⟨⟨hr, hfr⟩, hw⟩, hc2⟩ := hc
      have hr' : i ∈ Region.ready .any l.toArray listed := by simpa using hr
      obtain ⟨v, hy, h⟩ := h; exact wpAnyL_first (hidx hr') (Region.noSelect_spec hs) hw f listed a w hsh (fun _ h => h) (Region.free_spec (hidx hr') hfr) hr' hy ((ih f _ _ _ (hsh.step hr')).1 hc2 h)
  | m i r o ih1 ih2 =>
    have key : ∀ (fuel : Nat) (listed : Array Bool) (a : Act) (w : World), Shut l.toArray listed → ∀ f, fuel = f + 1 → chkQ l.toArray late false (.m i r o) fuel listed = true → wpQ P l K (.m i r o) a w → ∀ j ∈ altsQ (.m i r o), j ∈ Region.ready .any l.toArray listed → wpOp P l.toArray (only K) j (fun a' w' => (late.contains j = false → Below w.heap.size w w') ∧ wpAnyL P l.toArray K late f (listed.setIfInBounds j true) a' w') a w := by
      intro fuel listed a w hsh f hf hc h j hj hr; subst hf; simp only [chkQ, Bool.and_eq_true] at hc; obtain ⟨⟨_, hc1⟩, hc2⟩ := hc; rcases List.mem_cons.1 hj with rfl | hj
      · exact Yj (hidx hr) (Zm h.1 fun a' w' h' => ⟨fun _ => h'.1, (ih1 f _ _ _ (hsh.step hr)).1 hc1 h'.2⟩)
      · exact (ih2 (f + 1) listed a w hsh).2 f J hc2 h.2 j hj hr
    intro fuel listed a w hsh; refine ⟨fun hc h => ?_, key fuel listed a w hsh⟩
    cases fuel with
    | zero => simp [chkQ] at hc
    | succ f =>
      simp only [chkQ, Bool.and_eq_true, Bool.not_true, Bool.false_or, beq_iff_eq] at hc; obtain ⟨⟨⟨hr, hN⟩, hc1⟩, hc2⟩ := hc; refine ⟨(fun h0 => by rw [hr] at h0; simp [altsQ] at h0), fun j hj => ?_⟩; exact key (f + 1) listed a w hsh f J (by simp only [chkQ, hN, hc1, hc2, Bool.not_false, Bool.true_or, Bool.and_self]) h j (by rw [← hr]; exact hj) hj
  | a i r o ih1 ih2 =>
    have key : ∀ (fuel : Nat) (listed : Array Bool) (a : Act) (w : World), Shut l.toArray listed → ∀ f, fuel = f + 1 → chkQ l.toArray late false (.a i r o) fuel listed = true → wpQ P l K (.a i r o) a w → ∀ j ∈ altsQ (.a i r o), j ∈ Region.ready .any l.toArray listed → wpOp P l.toArray (only K) j (fun a' w' => (late.contains j = false → Below w.heap.size w w') ∧ wpAnyL P l.toArray K late f (listed.setIfInBounds j true) a' w') a w := by
      intro fuel listed a w hsh f hf hc h j hj hr; subst hf; simp only [chkQ, Bool.and_eq_true] at hc; obtain ⟨⟨⟨_, hl⟩, hc1⟩, hc2⟩ := hc; rcases List.mem_cons.1 hj with rfl | hj
      · exact Yj (hidx hr) (Zm h.1 fun a' w' h' => ⟨(fun hlt => by rw [hlt] at hl; cases hl), (ih1 f _ _ _ (hsh.step hr)).1 hc1 h'⟩)
      · exact (ih2 (f + 1) listed a w hsh).2 f J hc2 h.2 j hj hr
    intro fuel listed a w hsh; refine ⟨fun hc h => ?_, key fuel listed a w hsh⟩
    cases fuel with
    | zero => simp [chkQ] at hc
    | succ f =>
      simp only [chkQ, Bool.and_eq_true, Bool.not_true, Bool.false_or, beq_iff_eq] at hc; obtain ⟨⟨⟨hr, hN⟩, hc1⟩, hc2⟩ := hc; refine ⟨(fun h0 => by rw [hr] at h0; simp [altsQ] at h0), fun j hj => ?_⟩; exact key (f + 1) listed a w hsh f J (by simp only [chkQ, hN, hc1, hc2, Bool.not_false, Bool.true_or, Bool.and_self]) h j (by rw [← hr]; exact hj) hj
variable {X : Ctx} {L : AL} {B : BL} {K : Act → World → Prop}
theorem Yq {id : Nat} {l : List Oper} {Q : Exit → Act → World → Prop} (hm : X.P.follows .mixedOrders = true) (late : List Nat) (ord : Oq)
    (hc : (Region.noSelect l.toArray && chkQ l.toArray late true ord l.length (Array.replicate l.length false)) = true)
    (h : ∀ K, (∀ L' B', Fin X L' B' (fun a w => Q .normal a w) → Fin X L' B' K) → Fin X L B (wpQ X.P l K ord)) : St X L B (.region id l.toArray true) Q := by
  intro a ρ w hI; simp only [Bool.and_eq_true] at hc; obtain ⟨hs, hc⟩ := hc; have h1 := h _ (fun _ _ h => h) a ρ _ (hI.below (Below.drewOnce w)); have h2 := (anyL_ofQ hs ord l.length _ a _ (Shut.start _ _)).1 hc h1; have h3 := wpAny_of_L _ _ _ _ h2
  refine Go.wp_mono (wp_region_any (Q := only fun a w => Q .normal a w) hm ?_) ?_
  · simpa using h3
  · intro e a w h
    cases e with
    | normal => exact h
    | exit _ => exact h.elim
    | goto _ => exact h.elim
    | ret => exact h.elim
    | panic _ => exact h.elim
    | outgrown => exact h.elim
theorem Xy {l : List Oper} (h : Fin X L B K) : Fin X L B (wpQ X.P l K .done) := h
theorem Qf {l : List Oper} : Fin X L B (wpQ X.P l K .non) := fun _ _ _ _ => trivial
theorem Qo {l : List Oper} {i : Nat} {r : Oq} (h : Ops X l.toArray (.cons (nth l i) .pure .nil) L B (wpQ X.P l K r)) : Fin X L B (wpQ X.P l K (.p i r)) := h
theorem XU {l : List Oper} {i : Nat} {r : Oq} (h : Ops X l.toArray (.cons (nth l i) .free .nil) L B (wpQ X.P l K r)) : Fin X L B (wpQ X.P l K (.f i r)) := h
theorem X1 {l : List Oper} {i : Nat} {r o : Oq} (h : Ops X l.toArray (.cons (nth l i) .makes .nil) L B (wpQ X.P l K r)) (h2 : Fin X L B (wpQ X.P l K o)) : Fin X L B (wpQ X.P l K (.m i r o)) := fun a ρ w hI => ⟨h a ρ w hI, h2 a ρ w hI⟩
theorem Xk {l : List Oper} {i : Nat} {r o : Oq} (h : Ops X l.toArray (.cons (nth l i) .any .nil) L B (wpQ X.P l K r)) (h2 : Fin X L B (wpQ X.P l K o)) : Fin X L B (wpQ X.P l K (.a i r o)) := fun a ρ w hI => ⟨h a ρ w hI, h2 a ρ w hI⟩
variable {ops : Array Oper} {r : Pl} {k : Kd} {x y z : Operand} {d : Nat} {t t2 t' : TypeId} {pos : String} {af : Array Edge} {g : Option (Nat × Bool)}
end Go.Own
namespace Go.Own
open Go.RowKit
variable {X : Ctx} {L : AL} {B : BL} {ops : Array Oper} {K : Act → World → Prop} {r : Pl} {k : Kd}
  {x y z : Operand} {d : Nat} {t t2 t' : TypeId} {pos : String} {af : Array Edge} {g : Option (Nat × Bool)}
abbrev kh (gb o m c : Nat) : Value := .slice (some ⟨gb, o, none⟩) m c
theorem Ops.cutKh {el n bytes gb o m c : Nat} {zv : Value} {kk : IntKind} {j : Int} (q : Nat) (hg : gd ops L g = some true) (hx : ev L x = some (.ct (.ex (kh gb o m c)))) (hy : ev L y = some (.ct (.ex (.int kk j)))) (hj : j = (q : Int)) (hT : SlcT X.P t el n bytes zv) (h1 : q ≤ c) (hn : Nat.blt d X.n = true)
    (h : Ops X ops r ((d, .ct (.ex (kh gb o q c))) :: L) B K) : Ops X ops (.cons ⟨some d, .slice t x none (some y) none, t', pos, af, g⟩ k r) L B K :=
  X7 (s := .ct (.ex (kh gb o q c))) hg rfl hn (fun a ρ w hI => by
    refine ⟨kh gb o q c, fun w' _ => ?_, rfl⟩
    obtain ⟨nf, i1, i2, _⟩ := hT.inf
    have he := elem_eq hT.und
    have hu : X.P.underlying t = some (.slice (X.P.elem t)) := by rw [he]; exact hT.und
    show (do pure (Next.value (← Instr.sliceAt t (a.eval x) (Option.map a.eval none) ((some y).map a.eval) (Option.map a.eval none))) : Sem Next).run X.P w' = _
    simp only [Option.map_some, Option.map_none, hI.evx hx, hI.evx hy, hj]
    refine Xf ?_
    simp only [Instr.sliceAt, Sem.run_bind, run_underlying hT.und, Result.andThen_ok]
    rw [run_slice_h (P := X.P) (w := w') t _ m c hu kk q (by omega) (by omega)]
    rw [he, Zk i1]
    simp [sliced, Addr.add]) h
theorem Ops.cutKl {el n bytes gb o m c : Nat} {zv : Value} {kk : IntKind} {j : Int} (q : Nat) (hg : gd ops L g = some true) (hx : ev L x = some (.ct (.ex (kh gb o m c)))) (hy : ev L y = some (.ct (.ex (.int kk j)))) (hj : j = (q : Int)) (hT : SlcT X.P t el n bytes zv) (h1 : q ≤ m) (hn : Nat.blt d X.n = true)
    (h : Ops X ops r ((d, .ct (.ex (kh gb (if c = q then o else o + q * n) (m - q) (c - q)))) :: L) B K) : Ops X ops (.cons ⟨some d, .slice t x (some y) none none, t', pos, af, g⟩ k r) L B K :=
  X7 (s := .ct (.ex (kh gb (if c = q then o else o + q * n) (m - q) (c - q)))) hg rfl hn (fun a ρ w hI => by
    refine ⟨_, fun w' _ => ?_, rfl⟩
    obtain ⟨nf, i1, i2, _⟩ := hT.inf
    have he := elem_eq hT.und
    have hu : X.P.underlying t = some (.slice (X.P.elem t)) := by rw [he]; exact hT.und
    show (do pure (Next.value (← Instr.sliceAt t (a.eval x) ((some y).map a.eval) (Option.map a.eval none) (Option.map a.eval none))) : Sem Next).run X.P w' = _
    simp only [Option.map_some, Option.map_none, hI.evx hx, hI.evx hy, hj]
    refine Xf ?_
    simp only [Instr.sliceAt, Sem.run_bind, run_underlying hT.und, Result.andThen_ok]
    rw [run_slice_l (P := X.P) (w := w') t _ m c hu kk q (by omega) (by omega)]
    rw [he, Zk i1, i2]
    simp only [sliced, Result.andThen_ok, Int.toNat_natCast]
    by_cases hc : c = q
    · simp [hc]
    · simp [hc, YX]) h
theorem Ops.lenKv {el : Nat} {A : Option Addr} {m c : Nat} (hg : gd ops L g = some true) (hx : ev L x = some (.ct (.ex (.slice A m c)))) (hu : X.P.underlying t = some (.slice el)) (hn : Nat.blt d X.n = true) (h : Ops X ops r ((d, .ct (.ex (.int .i64 m))) :: L) B K) :
    Ops X ops (.cons ⟨some d, .call { callee := .builtin .len, args := #[x], argTypes := #[t] }, t', pos, af, g⟩ k r) L B K :=
  X7 (s := .ct (.ex (.int .i64 m))) hg rfl hn (fun a ρ w hI => by
    refine ⟨_, fun w' _ => Zg (args := [x]) ?_, rfl⟩
    intro cs
    simp only [List.map_cons, List.map_nil, hI.evx hx]
    exact run_lenSlice hu A m c cs w') h
theorem Is.rowK {a : Act} {ρ : Nat → Value} {w : World} (hI : Is X L B a ρ w) {i gb m c el n : Nat} {cs : List CT} (hi : bget B i = some (.rowx (kh gb 0 m c) el n cs)) (hl : cs.length = m * n) (hp : 0 < n) :
    ρ i = kh gb 0 m c ∧ ∃ (vs : List Value) (cur : Array Value), cells (Sof X B ρ) w cs vs ∧ vs.length = m * n ∧ w.heap[gb]? = some (.cells cur el (0, 0)) ∧ m ≤ c ∧ c ≤ maxLen ∧ cur.size = c * n ∧ cur.toList.take (m * n) = vs := by
  obtain ⟨hρ, m', vs, how, hc⟩ := (hI.ent i _ hi).1; have hlv := hc.length; have h1 := how.1; rw [hlv, hl] at h1; have hmm : m = m' := Nat.eq_of_mul_eq_mul_right hp h1; subst hmm; rcases how.2 with ⟨h2, _⟩ | ⟨gb', cap, cur, h2, _, hg, hnc, hcm, hcz, htk⟩
  · have h3 := hρ.symm.trans h2; cases h3
  · have h3 := hρ.symm.trans h2
    injection h3 with e1 e2 e3
    injection e1 with e1
    injection e1 with e1
    subst e1; subst e3; exact ⟨hρ, vs, cur, hc, by rw [hlv, hl], hg, hnc, hcm, hcz, htk⟩
theorem Ops.clearK {el n bytes gb m c oy q cq : Nat} {zv : Value} {cs : List CT} (e : Nat) (hg : gd ops L g = some true) (hx : ev L x = some (.ct (.ex (kh gb oy q cq)))) (hoy : q = 0 ∨ oy = m * n) (hi : bget B e = some (.rowx (kh gb 0 m c) el n cs)) (hl : cs.length = m * n) (h1 : m + q ≤ c) (hT : SlcT X.P t el n bytes zv) (hz1 : ∀ v ∈ zv.cells.toList, v.oneCell' = true)
    (h : Ops X ops r L (bset B e (.rowx (kh gb 0 m c) el n cs)) K) : Ops X ops (.cons ⟨none, .call { callee := .builtin .clear, args := #[x], argTypes := #[t] }, t', pos, af, g⟩ .any r) L B K := fun a ρ w hI => by
  show wpO _ _ _ _ _ _
  unfold wpO
  rw [if_pos (Zu (o := ⟨none, _, t', pos, af, g⟩) hI hg)]
  obtain ⟨hρ, vs, cur, hc, hlv, hgb, hmc, hcm, hcz, htk⟩ := hI.rowK hi hl hT.pos
  obtain ⟨nf, i1, i2, i3, i4⟩ := hT.inf
  have hcn : (m + q) * n ≤ c * n := Nat.mul_le_mul_right _ h1
  rw [Nat.add_mul] at hcn
  have hcl : cur.toList.length = c * n := by simpa using hcz
  have hzl : (Builtin.zeroCells zv.cells q).toList.length = q * n := by rw [Array.length_toList, size_zeroCells, hT.zs]
  have hone : ∀ u ∈ (Builtin.zeroCells zv.cells q).toList, u.oneCell' = true := fun u hu => by
    rw [zero_flat] at hu
    obtain ⟨l, hl, hu⟩ := List.mem_flatten.1 hu
    rw [List.eq_of_mem_replicate hl] at hu
    exact hz1 u hu
  have hrun : ∃ cur' : Array Value, (Builtin.clear_ #[t] t' #[kh gb oy q cq]).run X.P w = .ok (.tuple #[]) (w.setRow gb cur') ∧ cur'.size = c * n ∧ cur'.toList.take (m * n) = vs := by
    rcases Nat.eq_zero_or_pos q with h0 | h0
    · subst h0; refine ⟨cur, ?_, hcz, htk⟩; rw [setRow_self w gb cur el (0, 0) hgb]; simp [Builtin.clear_, run_underlying hT.und]
    · have hoy' : oy = m * n := by omega
      subst hoy'; have hst := run_storeCells_at (P := X.P) gb (m * n) el (Builtin.zeroCells zv.cells q).toList 0 cur w hgb (by rw [hzl, ← Array.length_toList, hcl]; omega) hone; simp only [Nat.add_zero] at hst; refine ⟨(cur.toList.take (m * n) ++ (Builtin.zeroCells zv.cells q).toList ++ cur.toList.drop (m * n + (Builtin.zeroCells zv.cells q).toList.length)).toArray, ?_, ?_, ?_⟩; rotate_left
      · show (cur.toList.take (m * n) ++ (Builtin.zeroCells zv.cells q).toList ++ cur.toList.drop (m * n + (Builtin.zeroCells zv.cells q).toList.length)).toArray.size = _; simp only [List.size_toArray, List.length_append, List.length_take, List.length_drop, hzl, hcl]; omega
      · show ((cur.toList.take (m * n) ++ (Builtin.zeroCells zv.cells q).toList ++ cur.toList.drop (m * n + (Builtin.zeroCells zv.cells q).toList.length)).toArray.toList).take (m * n) = _; rw [List.append_assoc, htk, ← hlv]; exact List.take_left
      · obtain ⟨q', rfl⟩ : ∃ q', q = q' + 1 := ⟨q - 1, by omega⟩; have hz : (zeroValue el).run X.P w = .ok zv w := Xs (by rw [i1]; simp [i4]) w; simp only [Builtin.clear_, List.getElem?_toArray, List.getElem?_cons_zero, Sem.run_bind, Sem.run_pure, Result.andThen_ok, run_underlying hT.und, hz, hst]
  obtain ⟨cur', hrun, hs1, hs2⟩ := hrun; unfold Oper.wp
  rw [show (execOp a.eval ⟨none, .call { callee := .builtin .clear, args := #[x], argTypes := #[t] }, t', pos, af, g⟩).run X.P w = .ok (.value (.tuple #[])) (w.setRow gb cur') from
    Zg (args := [x]) (fun _ => by simp only [List.map_cons, List.map_nil, hI.evx hx]; exact Xf hrun)]
  show wpX _ _ _ _ (a.put none _) _; rw [put_none]
  have hW := Is.write (i := e) (v := ρ e) (e' := .rowx (kh gb 0 m c) el n cs) (w' := w.setRow gb cur') hI hi J J J (by simp)
    (fun p hp hne => setRow_other _ _ _ _ (fun e => hne (by rw [e, hρ]; rfl))) (.inl J)
    (fun S' hk => ⟨hρ, m, vs, ⟨hlv, .inr ⟨gb, c, cur', hρ, Nat.zero_le _, setRow_heap w gb cur _ el _ hgb, hmc, hcm, hs1, hs2⟩⟩, hc.mono hk⟩) (.inl J) (.inr J)
  exact h _ _ _ (hW.bext (Zq hi))
end Go.Own
namespace Go.Own
open Go.RowKit
variable {X : Ctx} {L : AL} {B : BL} {ops : Array Oper} {K : Act → World → Prop} {r : Pl} {k : Kd}
  {x y z : Operand} {d : Nat} {t t2 t' : TypeId} {pos : String} {af : Array Edge} {g : Option (Nat × Bool)}
theorem Sof_del {ρ : Nat → Value} {w : World} (i : Nat) : Kp (Sof X B ρ) (Sof X (bdel B i) ρ) w w := ⟨Nat.le_refl _, fun k _ hs => ⟨⟨hs.1, fun j e hj => by
    by_cases hji : j = i
    · subst hji; rw [Zp] at hj; cases hj
    · rw [ZX _ hji] at hj; exact hs.2 j e hj⟩, rfl⟩⟩
def Sl.ren (a : Nat) : Sl → Sl
  | .own _ => .own a
  | s => s
def notN (a j : Nat) : Bool := !Nat.beq a j
theorem Ops.call1 {f : FuncId} {args : List Operand} {tys : Array TypeId} {As : List CT} {e : Ent} {α : Type} {J : α → Prop} {R : α → Sl} {e' : α → Ent} (a : Nat) (hgo : InGo X.P f) (hok : OkM X.P f (As.map Sl.ct) [(a, e)] [] J R (fun q => [(a, e' q)])) (hg : gd ops L g = some true) (hargs : evS L args = some (As.map Sl.ct)) (hn : Nat.blt d X.n = true)
    (hbor : ∀ gb, X.bor gb → X.S0 gb) (hi : bget B a = some e) (hfix : ∀ p ∈ X.fix, p.1 ≠ a ∧ (bget B p.1).isSome = true) (hR : ∀ q j, (R q = .own j ∨ ∃ o, R q = .loc j o) → j = a)
    (h : ∀ q, J q → Ops X ops r ((d, R q) :: keepL (notN a) L) ((a, e' q) :: bdel B a) K) : Ops X ops (.cons ⟨some d, .call { callee := .value (.func f), args := args.toArray, argTypes := tys }, t, pos, af, g⟩ .any r) L B K := by
  refine Ops.callM (bdel B a) (notN a) hgo hok hg hargs hn hbor (fun j => ?_) (fun j hj => ?_) (fun j hj => ?_) (fun p hp => ?_) (fun q j hq => ?_) h
  · show _ = bget ((a, e) :: bdel B a) j; by_cases hja : a = j
    · subst hja; rw [XV]; exact hi
    · rw [Xq _ _ hja, ZX _ (Ne.symm hja)]
  · have hja : a ≠ j := fun he => by subst he; rw [Zp] at hj; cases hj
    exact ⟨by rw [Xq _ _ hja]; rfl, fun q => by rw [Xq _ _ hja]; rfl⟩
  · have hja : a ≠ j := fun he => by subst he; simp [notN] at hj
    exact .inr fun q => by rw [Xq _ _ hja]; rfl
  · have := hfix p hp; exact .inl (by rw [ZX _ this.1]; exact this.2)
  · rw [hR q j hq, XV]; rfl
end Go.Own
namespace Go.Own
open Go.RowKit
variable {X : Ctx} {L : AL} {B : BL} {ops : Array Oper} {K : Act → World → Prop} {r : Pl} {k : Kd}
  {x y z : Operand} {d : Nat} {t t2 t' : TypeId} {pos : String} {af : Array Edge} {g : Option (Nat × Bool)}
section
variable {α : Type} {f : α → List CT} {n : Nat}
theorem el_len (hf : ∀ a, (f a).length = n) (l : List α) : (l.map f).flatten.length = l.length * n := by
  rw [Zy (k := n) (fun e he => by obtain ⟨m, _, rfl⟩ := List.mem_map.mp he; exact hf m)]; simp
theorem el_take (hf : ∀ a, (f a).length = n) (l : List α) (i : Nat) : (l.map f).flatten.take (i * n) = ((l.take i).map f).flatten := by
  induction l generalizing i with
  | nil => simp
  | cons c l ih =>
    cases i with
    | zero => simp
    | succ i =>
      rw [List.map_cons, List.flatten_cons, List.take_succ_cons, List.map_cons, List.flatten_cons, List.take_append, List.take_of_length_le (by rw [hf, Nat.succ_mul]; omega), ← ih]
      congr 2; rw [hf, Nat.succ_mul]; omega
theorem el_drop (hf : ∀ a, (f a).length = n) (l : List α) (i : Nat) : (l.map f).flatten.drop (i * n) = ((l.drop i).map f).flatten := by
  induction l generalizing i with
  | nil => simp
  | cons c l ih =>
    cases i with
    | zero => simp
    | succ i =>
      rw [List.map_cons, List.flatten_cons, List.drop_succ_cons, List.drop_append, List.drop_of_length_le (by rw [hf, Nat.succ_mul]; omega), List.nil_append, ← ih]
      congr 1; rw [hf, Nat.succ_mul]; omega
theorem el_get (hf : ∀ a, (f a).length = n) {l : List α} {i : Nat} (z : α) (h : i < l.length) : ((l.map f).flatten.drop (i * n)).take n = f (l.getD i z) := by
  rw [el_drop hf]
  conv => lhs; rw [← Nat.one_mul n]
  rw [el_take hf]
  have : (l.drop i).take 1 = [l.getD i z] := by
    rw [List.getD_eq_getElem?_getD, List.getElem?_eq_getElem h, List.drop_eq_getElem_cons h]; rfl
  rw [this]; simp
theorem el_put (hf : ∀ a, (f a).length = n) {l : List α} {i : Nat} (c : α) (h : i < l.length) : spl (l.map f).flatten (i * n) (f c) = ((l.set i c).map f).flatten := by
  unfold spl; rw [el_take hf, hf, ← Nat.succ_mul, el_drop hf, List.set_eq_take_append_cons_drop, if_pos h]; simp
theorem el_cell (hf : ∀ a, (f a).length = n) {l : List α} {i o : Nat} (z : α) (h : i < l.length) (ho : o < n) : (l.map f).flatten[i * n + o]? = (f (l.getD i z))[o]? := by
  rw [← el_get hf z h, List.getElem?_take, if_pos ho, List.getElem?_drop]
theorem el_put1 (hf : ∀ a, (f a).length = n) {l : List α} {i o : Nat} (z c : α) {ds : List CT} (h : i < l.length) (ho : o + ds.length ≤ n) (hc : spl (f (l.getD i z)) o ds = f c) : spl (l.map f).flatten (i * n + o) ds = ((l.set i c).map f).flatten := by
  rw [← el_put hf c h, ← hc]; have e := el_get hf z h
  have hl : i * n + n ≤ (l.map f).flatten.length := by rw [el_len hf, ← Nat.succ_mul]; exact Nat.mul_le_mul_right _ h
  have hn := hf (l.getD i z); generalize (l.map f).flatten = q at e hl; generalize f (l.getD i z) = p at e hn; unfold spl; subst e; generalize i * n = s at hl hn ⊢
  have hlen : (List.take o (List.take n (List.drop s q)) ++ ds ++ List.drop (o + ds.length) (List.take n (List.drop s q))).length = n := by simp; omega
  rw [hlen]
  have e1 : q.take (s + o) = q.take s ++ ((q.drop s).take n).take o := by
    rw [List.take_take, Nat.min_eq_left (by omega), ← List.take_add]
  have e2 : q.drop (s + o + ds.length) = ((q.drop s).take n).drop (o + ds.length) ++ q.drop (s + n) := by
    rw [List.drop_take, List.drop_drop, ← Nat.add_assoc, show q.drop (s + n) = (q.drop (s + o + ds.length)).drop (n - (o + ds.length)) by rw [List.drop_drop]; congr 1; omega, List.take_append_drop]
  rw [e1, e2]; simp only [List.append_assoc]
theorem ones_append : ∀ a b : List CT, ones (a ++ b) = (ones a && ones b)
  | [], b => rfl
  | c :: a, b => by simp only [List.cons_append, ones, ones_append a b, Bool.and_assoc]
theorem el_ones (h : ∀ a, ones (f a) = true) : ∀ l : List α, ones (l.map f).flatten = true
  | [] => rfl
  | a :: l => by rw [List.map_cons, List.flatten_cons, ones_append, h a, el_ones h l]; rfl
theorem stE1 {i j o el : Nat} {l : List α} {c : CT} (f : α → List CT) (z a : α) (hf : ∀ a, (f a).length = n) (hg : gd ops L g = some true) (hx : ev L x = some (.loc i (j * n + o))) (hi : bget B i = some (.row el n ((l.map f).flatten))) (hy : ev L y = some (.ct c)) (ho : c.one = true) (hj : j < l.length) (ho2 : o < n) (hc : spl (f (l.getD j z)) o [c] = f a) (hsz : (X.P.info? t).map (·.size) = some 1)
    (h : Ops X ops r L (bset B i (.row el n (((l.set j a).map f).flatten))) K) : Ops X ops (.cons ⟨none, .store t x y, t', pos, af, g⟩ .any r) L B K :=
  Ops.stG hg hx (.inl rfl) hi (one_val ho hy) hsz (by
    show j * n + o + 1 ≤ (l.map f).flatten.length
    rw [el_len hf]
    have := Nat.mul_le_mul_right n hj
    rw [Nat.succ_mul] at this; omega) (by
    have : (Ent.row el n ((l.map f).flatten)).putc (j * n + o) [c] = .row el n (((l.set j a).map f).flatten) := by rw [← el_put1 hf z a (ds := [c]) hj ho2 hc]; rfl
    rw [this]; exact h)
theorem ldE {i j : Nat} {e : Ent} {l : List α} (f : α → List CT) (z : α) (hf : ∀ a, (f a).length = n) (hk : k.rd = true) (hg : gd ops L g = some true) (hx : ev L x = some (.loc i (j * n))) (hi : bget B i = some e) (he : e.cs = (l.map f).flatten) (hj : j < l.length) (hT : LdN X.P t n) (hn : Nat.blt d X.n = true)
    (h : Ops X ops r ((d, .ct (.fr (aggT (f (l.getD j z))))) :: L) B K) : Ops X ops (.cons ⟨some d, .load t x, t', pos, af, g⟩ k r) L B K :=
  Ops.ldNA hk hg hx hi (by rw [he, el_len hf, ← Nat.succ_mul]; exact Nat.mul_le_mul_right _ hj) hT hn (by rw [he, el_get hf z hj]; exact h)
theorem stE {i j el : Nat} {l : List α} (f : α → List CT) (c : α) (hf : ∀ a, (f a).length = n) (hg : gd ops L g = some true) (hx : ev L x = some (.loc i (j * n))) (hi : bget B i = some (.row el n ((l.map f).flatten))) (hy : ev L y = some (.ct (.fr (aggT (f c))))) (ho : ones (f c) = true) (hj : j < l.length) (hsz : (X.P.info? t).map (·.size) = some n)
    (h : Ops X ops r L (bset B i (.row el n (((l.set j c).map f).flatten))) K) : Ops X ops (.cons ⟨none, .store t x y, t', pos, af, g⟩ .any r) L B K :=
  Ops.stNA hg hx hi hy ho (by rw [hsz, hf]) (by show j * n + (f c).length ≤ _; rw [hf]; show _ ≤ (l.map f).flatten.length; rw [el_len hf, ← Nat.succ_mul]; exact Nat.mul_le_mul_right _ hj) (by
    have : (Ent.row el n ((l.map f).flatten)).putc (j * n) (f c) = .row el n (((l.set j c).map f).flatten) := by rw [← el_put hf c hj]; rfl
    rw [this]; exact h)
end
theorem Ops.appNil (i : Nat) {el n bytes : Nat} {zv : Value} {es : List (List CT)} (hg : gd ops L g = some true) (hx : ev L x = some (.ct (.ex (.slice none 0 0)))) (hy : ev L y = some (.ct (.fr (sliceT n es)))) (hT : SlcT X.P t el n bytes zv) (ho : ones es.flatten = true) (hb : es.length * bytes ≤ 140737488355328) (hmx : es.length ≤ 140737488355328) (hN : noN i L = true) (hB : bget B i = none) (hn : Nat.blt d X.n = true)
    (h : Ops X ops r ((d, .own i) :: L) ((i, .row el n es.flatten) :: B) K) : Ops X ops (.cons ⟨some d, .call { callee := .builtin .append, args := #[x, y], argTypes := #[t, t] }, t', pos, af, g⟩ .any r) L B K :=
  Ops.mkE (k := .any) rfl hg rfl hn hN hB (fun a ρ w hI => by
    obtain ⟨ad, c, hy1, hy2, hy3, hy4, hy5⟩ := hI.ev hy
    obtain ⟨nf, h1, h2, h3, h4⟩ := hT.inf
    have hmax : 0 + es.length ≤ maxLen := by simp only [maxLen]; omega
    have key : ∃ v' w', (Builtin.append_ #[t, t] t' #[.slice none 0 0, a.eval y]).run X.P w = .ok v' w' ∧ (∃ news, cells (Sof X B ρ) w es.flatten news ∧ w'.ownsRow 0 el n v' (0 + es.length) ([] ++ news)) ∧ w.grownBy w' (Value.slice none 0 0).ownBlock ∧ (blk v' = blk (.slice none 0 0) ∨ ∀ g, blk v' = some g → w.heap.size ≤ g) := by
      rw [hy1]; have how : w.ownsRow 0 el n (.slice none 0 0) 0 [] := World.ownsRow_nil _ _ _ _; by_cases he : es = []
      · subst he
        cases ad with
        | none => exact ⟨.slice none 0 0, w, by simp [Builtin.append_, run_underlying hT.und, sizeOf, typeInfo, h1, Builtin.lenOf, Builtin.firstCells], ⟨[], trivial, how⟩, ⟨rfl, rfl, rfl, Nat.le_refl _, fun _ _ _ => rfl⟩, .inl J⟩
        | some ad =>
          obtain ⟨v', w', r1, r2, r3, r4⟩ := Yw (P := X.P) w t t' el nf zv n bytes hT.und h1 h4 h2 h3 hT.zs hT.pos _ 0 [] how ad 0 c [] (by simp) (by simp) (by simp) (by simp) (by simp); exact ⟨v', w', r1, ⟨[], trivial, r2⟩, r3, r4⟩
      · obtain ⟨b, o, rfl, hS, hlt, news, hn1, hn2⟩ := hy5 he; obtain ⟨v', w', r1, r2, r3, r4⟩ := Yw (P := X.P) w t t' el nf zv n bytes hT.und h1 h4 h2 h3 hT.zs hT.pos _ 0 [] how ⟨b, o, none⟩ es.length c news (by rw [hn1.length, Zy hy4]) (fun j u hu => by rw [YX]; exact hn2 j u hu) (ones_cells ho hn1) hmax (by simpa using hb); exact ⟨v', w', r1, ⟨news, hn1, r2⟩, r3, r4⟩
    obtain ⟨v', w', r1, ⟨news, r2, r3⟩, r4, r5⟩ := key
    refine ⟨v', w', Zg (args := [x, y]) (fun _ => by
      simp only [List.map_cons, List.map_nil, hI.evx hx]
      exact Xf r1), ⟨r4.os, r4.tape, r4.output, r4.size, fun q hq => r4.block q hq (fun e => by cases e), run_drawn _ _ r1⟩, fun gb hgb => ?_, fun S' hk => ⟨0 + es.length, [] ++ news, r3, r2.mono hk⟩⟩
    rcases r5 with h5 | h5
    · rw [h5] at hgb; cases hgb
    · exact h5 gb hgb) h
theorem keepL_id {i : Nat} : ∀ {L : AL}, noN i L = true → keepL (fun j => !Nat.beq j i) L = L
  | [], _ => rfl
  | (d, s) :: L, h => by
    simp only [noN, Bool.and_eq_true] at h
    rw [keepL, keepL_id h.2]
    congr 2
    cases s with
    | own j => have := h.1; simp only [Sl.keepN, this, if_true]
    | loc j o => have := h.1; simp only [Sl.keepN, this, if_true]
    | ct c => rfl
    | any => rfl
end Go.Own
namespace Go.Own
open Go.RowKit
inductive Am where
  | i (k : IntKind) (n : Int)
  | b (x : Bool)
deriving DecidableEq
def Am.v : Am → Value
  | .i k n => .int k n
  | .b x => .bool x
def Am.ty : Am → TypeDesc
  | .i k _ => .int k
  | .b _ => .bool
abbrev amC (aq : List Am) : List CT := aq.map fun a => CT.ex a.v
theorem run_part_am {P : Program} {t : TypeId} {a : Am} {cs : Array Value} {o : Nat} (h : P.underlying t = some a.ty) (hv : cs[o]? = some a.v) (w : World) : (part t cs o).run P w = .ok a.v w := by
  cases a with
  | i k n => exact run_part_int h hv w
  | b x =>
    have h : P.underlying t = some .bool := h; simp [part, isAgg, run_underlying h, hv]
theorem run_eqAm {P : Program} {t : TypeId} {a b : Am} (d : Nat) (w : World) (h : P.underlying t = some a.ty) (hb : a.ty = b.ty) : (Op.equalIn (d + 1) t a.v b.v).run P w = .ok (decide (a = b)) w := by
  cases a with
  | i k n =>
    cases b with
    | i k' n' =>
      injection hb with hb; subst hb
      show (Op.equalIn (d + 1) t (.int k n) (.int k n')).run P w = _; rw [run_equalIn_int w d t k k n n' h]
      congr 1
      by_cases hn : n = n' <;> simp [hn]
    | b x => cases hb
  | b x =>
    cases b with
    | i k n => cases hb
    | b y =>
      show (Op.equalIn (d + 1) t (.bool x) (.bool y)).run P w = _; rw [run_equalIn_bool' w d t x y h]
      congr 1
      cases x <;> cases y <;> rfl
theorem run_eqAtoms {P : Program} (d : Nat) (xs ys : Array Value) (w : World) (rest : List Field) : ∀ (fs : List Field) (aq bs : List Am) (s : Nat), aq.map Am.ty = bs.map Am.ty →
    fs.map (fun f => (f.name == "_", f.offset, P.underlying f.type)) = (aq.zipIdx s).map (fun p => (false, p.2, some p.1.ty)) →
    (∀ j a, aq[j]? = some a → xs[s + j]? = some a.v) → (∀ j a, bs[j]? = some a → ys[s + j]? = some a.v) →
    (Op.eqFields (d + 1) xs ys (fs ++ rest)).run P w = if aq = bs then (Op.eqFields (d + 1) xs ys rest).run P w else .ok false w
  | [], [], [], _, _, _, _, _ => by simp
  | [], _ :: _, _, _, _, h, _, _ => by simp at h
  | _ :: _, [], _, _, _, h, _, _ => by simp at h
  | [], [], _ :: _, _, h, _, _, _ => by simp at h
  | _ :: _, _ :: _, [], _, h, _, _, _ => by simp at h
  | f :: fs, a :: aq, b :: bs, s, h1, hf, hx, hy => by
    simp only [List.map_cons, List.zipIdx_cons] at hf h1
    injection hf with hf1 hf2
    injection hf1 with hn ho
    injection ho with ho hu
    injection h1 with h1 h2
    have hx0 := hx 0 a rfl
    have hy0 := hy 0 b rfl
    rw [Nat.add_zero] at hx0 hy0
    have hne : f.name ≠ "_" := by simpa using hn
    have ih := run_eqAtoms d xs ys w rest fs aq bs (s + 1) h2 hf2 (fun j a' e => by rw [show s + 1 + j = s + (j + 1) by omega]; exact hx (j + 1) a' e) (fun j a' e => by rw [show s + 1 + j = s + (j + 1) by omega]; exact hy (j + 1) a' e)
    simp only [List.cons_append, Op.eqFields, if_pos hne, Sem.run_bind]
    rw [run_part_am hu (by rw [ho]; exact hx0)]
    simp only [Result.andThen_ok]
    rw [run_part_am (a := b) (hu.trans (by rw [h1])) (by rw [ho]; exact hy0)]
    simp only [Result.andThen_ok]
    rw [run_eqAm d w hu h1]
    simp only [Result.andThen_ok]
    by_cases hab : a = b
    · subst hab
      simp only [decide_true, Bool.not_true, Bool.false_eq_true, if_false]
      rw [ih]
      by_cases h3 : aq = bs <;> simp [h3]
    · simp [hab]
structure EqN (P : Program) (t ta : TypeId) (k1 k2 : List TypeDesc) : Prop where
  und : P.underlying t = some (.struct (P.fieldsOf t))
  held : P.stoodInHeld t = false
  guard : P.eqGuardType P.depth t = false
  fields : (P.fieldsOf t).toList.map (fun f => (f.name == "_", f.offset, P.underlying f.type)) = k1.zipIdx.map (fun p => (false, p.2, some p.1)) ++ [(false, k1.length, some (.struct (P.fieldsOf ta)))]
  last : ((P.fieldsOf t).toList.getLast?).map (·.type) = some ta
  unda : P.underlying ta = some (.struct (P.fieldsOf ta))
  helda : P.stoodInHeld ta = false
  size : (P.info? ta).map (·.size) = some k2.length
  fieldsa : (P.fieldsOf ta).toList.map (fun f => (f.name == "_", f.offset, P.underlying f.type)) = k2.zipIdx.map (fun p => (false, p.2, some p.1))
theorem zipIdx_ty (aq : List Am) (s : Nat) : ((aq.map Am.ty).zipIdx s).map (fun p => (false, p.2, some p.1)) = (aq.zipIdx s).map (fun p => (false, p.2, some p.1.ty)) := by
  induction aq generalizing s with
  | nil => rfl
  | cons a aq ih => simp only [List.map_cons, List.zipIdx_cons, ih]
theorem EqN.run {P : Program} {t ta : TypeId} {k1 k2 : List TypeDesc} (h : EqN P t ta k1 k2) (a1 b1 a2 b2 : List Am) (e1 : a1.map Am.ty = k1) (e2 : b1.map Am.ty = k1) (e3 : a2.map Am.ty = k2) (e4 : b2.map Am.ty = k2) (w : World) :
    (Op.equalIn 10000 t (.agg ((a1 ++ a2).map Am.v).toArray) (.agg ((b1 ++ b2).map Am.v).toArray)).run P w = .ok (decide (a1 = b1 ∧ a2 = b2)) w := by
  rw [run_equalIn_struct w 9999 t _ _ h.und h.held]
  have hl1 : a1.length = k1.length := by rw [← e1, List.length_map]
  have hl2 : b1.length = k1.length := by rw [← e2, List.length_map]
  have hl3 : a2.length = k2.length := by rw [← e3, List.length_map]
  have hl4 : b2.length = k2.length := by rw [← e4, List.length_map]
  obtain ⟨fs, fa, hfs⟩ : ∃ fs fa, (P.fieldsOf t).toList = fs ++ [fa] := by
    rcases List.eq_nil_or_concat (P.fieldsOf t).toList with h0 | ⟨fs, fa, h0⟩
    · have := h.last; rw [h0] at this; cases this
    · exact ⟨fs, fa, by rw [h0]; simp⟩
  have hF := h.fields; rw [hfs, List.map_append] at hF; have hF2 := List.append_inj' hF J
  have hlast : fa.type = ta := by
    have := h.last; rw [hfs, List.getLast?_append] at this
    simpa using this
  have hfa := hF2.2; simp only [List.map_cons, List.map_nil, List.cons.injEq, and_true, Prod.mk.injEq] at hfa; obtain ⟨hn, ho, hu⟩ := hfa
  have hne : fa.name ≠ "_" := by simpa using hn
  have gx : ∀ (p q : List Am) (j : Nat) (a : Am), p[j]? = some a → ((p ++ q).map Am.v).toArray[0 + j]? = some a.v := fun p q j a e => by
    have hj : j < p.length := (List.getElem?_eq_some_iff.1 e).1; rw [Nat.zero_add, List.getElem?_toArray, List.getElem?_map, List.getElem?_append_left hj, e]; rfl
  rw [hfs, run_eqAtoms 9998 _ _ w [fa] fs a1 b1 0 (e1.trans e2.symm) (by rw [hF2.1, ← e1, zipIdx_ty]) (gx a1 a2) (gx b1 b2)]; by_cases h1 : a1 = b1
  · rw [if_pos h1]
    have hpart : ∀ (p q : List Am), p.length = k1.length → q.length = k2.length → (part fa.type ((p ++ q).map Am.v).toArray fa.offset).run P w = .ok (.agg (q.map Am.v).toArray) w := fun p q hp hq => by
      have hs : (sizeOf fa.type).run P w = .ok k2.length w := by
        rw [hlast]; obtain ⟨i, hi, hs⟩ := Option.map_eq_some_iff.1 h.size; simp [sizeOf, typeInfo, hi, hs]
      have ha : (isAgg fa.type).run P w = .ok true w := by simp [isAgg, run_underlying (hlast ▸ h.unda)]
      simp only [part, Sem.run_bind, ha, Result.andThen_ok, if_true, hs, Sem.run_pure]
      congr 2
      rw [ho]
      apply Array.ext'
      simp only [Array.toList_extract, List.extract_eq_take_drop, List.map_append]; rw [show k1.length + k2.length - k1.length = k2.length by omega, List.drop_append, List.drop_of_length_le (by rw [List.length_map]; omega), List.nil_append, List.length_map, hp, Nat.sub_self, List.drop_zero, List.take_of_length_le (by rw [List.length_map]; omega)]
    simp only [Op.eqFields, if_pos hne, Sem.run_bind]; rw [hpart a1 a2 hl1 hl3]; simp only [Result.andThen_ok]; rw [hpart b1 b2 hl2 hl4]; simp only [Result.andThen_ok]; rw [hlast, run_equalIn_struct w 9998 ta _ _ h.unda h.helda]
    have gy : ∀ (q : List Am) (j : Nat) (a : Am), q[j]? = some a → (q.map Am.v).toArray[0 + j]? = some a.v := fun q j a e => by
      rw [Nat.zero_add, List.getElem?_toArray, List.getElem?_map, e]; rfl
    have := run_eqAtoms 9997 (a2.map Am.v).toArray (b2.map Am.v).toArray w [] (P.fieldsOf ta).toList a2 b2 0 (e3.trans e4.symm) (by rw [h.fieldsa, ← e3, zipIdx_ty]) (gy a2) (gy b2); rw [List.append_nil] at this; rw [this]; by_cases h2 : a2 = b2
    · rw [if_pos h2]; simp [Op.eqFields, h1, h2]
    · rw [if_neg h2]; simp [h2]
  · rw [if_neg h1]; simp [h1]
theorem am_cells {S : BSet} {w : World} : ∀ {aq : List Am} {vs : List Value}, cells S w (amC aq) vs → vs = aq.map Am.v
  | [], [], _ => rfl
  | a :: aq, v :: vs, ⟨h1, h2⟩ => by
    have h1 : v = a.v := h1
    rw [h1, am_cells h2]; rfl
  | [], _ :: _, h => h.elim
  | _ :: _, [], h => h.elim
variable {X : Ctx} {L : AL} {B : BL} {ops : Array Oper} {K : Act → World → Prop} {r : Pl} {k : Kd}
  {x y z : Operand} {d : Nat} {t t2 t' ta : TypeId} {pos : String} {af : Array Edge} {g : Option (Nat × Bool)}
theorem Ops.eqN {k1 k2 : List TypeDesc} (a1 a2 b1 b2 : List Am) (hg : gd ops L g = some true) (hx : ev L x = some (.ct (.fr (aggT (amC (a1 ++ a2)))))) (hy : ev L y = some (.ct (.fr (aggT (amC (b1 ++ b2)))))) (e1 : a1.map Am.ty = k1) (e2 : b1.map Am.ty = k1) (e3 : a2.map Am.ty = k2) (e4 : b2.map Am.ty = k2) (hE : EqN X.P t ta k1 k2) (hn : Nat.blt d X.n = true)
    (h : Ops X ops r ((d, .ct (.ex (.bool (decide (a1 = b1 ∧ a2 = b2))))) :: L) B K) : Ops X ops (.cons ⟨some d, .binOp .eql t x y t2, t', pos, af, g⟩ k r) L B K :=
  X7 (s := .ct (.ex (.bool (decide (a1 = b1 ∧ a2 = b2))))) hg rfl hn (fun a ρ w hI => ⟨_, fun w' _ => by
    obtain ⟨us, f1, c1⟩ := hI.ev hx
    obtain ⟨vs, f2, c2⟩ := hI.ev hy
    have d1 := am_cells c1
    have d2 := am_cells c2
    subst d1; subst d2
    show (do pure (Next.value (← (do eqGuard .eql t x y (a.eval x) (a.eval y); binOp .eql t (a.eval x) (a.eval y) : Sem Value))) : Sem Next).run X.P w' = _
    rw [f1, f2]
    refine Xf ?_
    simp only [Sem.run_bind, run_eqGuard_agg w' _ t x y _ _ hE.guard, Result.andThen_ok]
    rw [run_eql_struct, hE.run a1 b1 a2 b2 e1 e2 e3 e4 w']; rfl, rfl⟩) h
theorem Ops.neN {k1 k2 : List TypeDesc} (a1 a2 b1 b2 : List Am) (hg : gd ops L g = some true) (hx : ev L x = some (.ct (.fr (aggT (amC (a1 ++ a2)))))) (hy : ev L y = some (.ct (.fr (aggT (amC (b1 ++ b2)))))) (e1 : a1.map Am.ty = k1) (e2 : b1.map Am.ty = k1) (e3 : a2.map Am.ty = k2) (e4 : b2.map Am.ty = k2) (hE : EqN X.P t ta k1 k2) (hn : Nat.blt d X.n = true)
    (h : Ops X ops r ((d, .ct (.ex (.bool (!decide (a1 = b1 ∧ a2 = b2))))) :: L) B K) : Ops X ops (.cons ⟨some d, .binOp .neq t x y t2, t', pos, af, g⟩ k r) L B K :=
  X7 (s := .ct (.ex (.bool (!decide (a1 = b1 ∧ a2 = b2))))) hg rfl hn (fun a ρ w hI => ⟨_, fun w' _ => by
    obtain ⟨us, f1, c1⟩ := hI.ev hx
    obtain ⟨vs, f2, c2⟩ := hI.ev hy
    have d1 := am_cells c1
    have d2 := am_cells c2
    subst d1; subst d2
    show (do pure (Next.value (← (do eqGuard .neq t x y (a.eval x) (a.eval y); binOp .neq t (a.eval x) (a.eval y) : Sem Value))) : Sem Next).run X.P w' = _
    rw [f1, f2]
    refine Xf ?_
    simp only [Sem.run_bind, run_eqGuard_agg w' _ t x y _ _ hE.guard, Result.andThen_ok]
    rw [run_neq_struct, hE.run a1 b1 a2 b2 e1 e2 e3 e4 w']; rfl, rfl⟩) h
end Go.Own
namespace Go.Own
open Go.RowKit
structure Tb where
  fld : List (Nat × Nat × Nat)
  one : List Nat
  cv : List (Nat × Nat × IntKind)
  ar : List Nat
structure Tb.ok (P : Program) (T : Tb) : Prop where
  fld : ∀ p ∈ T.fld, ∃ sz, fldInfo P p.1 p.2.1 = some (p.2.2, some (sz + 1))
  one : ∀ t ∈ T.one, Ld1 P t
  cv : ∀ p ∈ T.cv, (∃ D, P.underlying p.1 = some D) ∧ P.underlying p.2.1 = some (.int p.2.2)
  ar : ∀ t ∈ T.ar, ∃ el v0 v1, ArrT P t el 2 1 (.agg #[v0, v1])
def fldL : List (Nat × Nat × Nat) → Nat → Nat → Option Nat
  | [], _, _ => none
  | (a, b, o) :: l, t, f => match Nat.beq a t, Nat.beq b f with
    | true, true => some o
    | _, _ => fldL l t f
def hasL : List Nat → Nat → Bool
  | [], _ => false
  | a :: l, t => match Nat.beq a t with
    | true => true
    | false => hasL l t
def cvL : List (Nat × Nat × IntKind) → Nat → Nat → Option IntKind
  | [], _, _ => none
  | (a, b, k) :: l, s, t => match Nat.beq a s, Nat.beq b t with
    | true, true => some k
    | _, _ => cvL l s t
theorem fldL_mem : ∀ {l : List (Nat × Nat × Nat)} {t f o : Nat}, fldL l t f = some o → (t, f, o) ∈ l
  | (a, b, o') :: l, t, f, o, h => by
    unfold fldL at h
    split at h
    · rename_i h1 h2
      injection h with h; subst h
      rw [Nat.eq_of_beq_eq_true h1, Nat.eq_of_beq_eq_true h2]; exact List.mem_cons_self ..
    · exact List.mem_cons_of_mem _ (fldL_mem h)
theorem hasL_mem : ∀ {l : List Nat} {t : Nat}, hasL l t = true → t ∈ l
  | a :: l, t, h => by
    unfold hasL at h
    split at h
    · rename_i h1
      rw [Nat.eq_of_beq_eq_true h1]; exact List.mem_cons_self ..
    · exact List.mem_cons_of_mem _ (hasL_mem h)
theorem cvL_mem : ∀ {l : List (Nat × Nat × IntKind)} {s t : Nat} {k : IntKind}, cvL l s t = some k → (s, t, k) ∈ l
  | (a, b, k') :: l, s, t, k, h => by
    unfold cvL at h
    split at h
    · rename_i h1 h2
      injection h with h; subst h
      rw [Nat.eq_of_beq_eq_true h1, Nat.eq_of_beq_eq_true h2]; exact List.mem_cons_self ..
    · exact List.mem_cons_of_mem _ (cvL_mem h)
def stepB (T : Tb) (n : Nat) (B : BL) (L : AL) : Oper → Kd → Option AL
  | ⟨some d, op, _, _, _, none⟩, k =>
    match Nat.blt d n with
    | false => none
    | true =>
      match op with
      | .move x => (ev L x).map fun s => (d, s) :: L
      | .fieldAddr t x f =>
        match fldL T.fld t f with
        | some off =>
          match ev L x with
          | some (.own i) => match bget B i with
            | some (.box _ _) => some ((d, .loc i off) :: L)
            | _ => none
          | some (.loc i o) => some ((d, .loc i (o + off)) :: L)
          | _ => none
        | _ => none
      | .load t x =>
        match k.rd, hasL T.one t with
        | true, true =>
          match ev L x with
          | some (.loc i o) => match bget B i with
            | some e => (e.cs[o]?).map fun c => (d, .ct c) :: L
            | none => none
          | _ => none
        | _, _ => none
      | .convert src dst x =>
        match cvL T.cv src dst, ev L x with
        | some k2, some (.ct (.ex (.int _ p))) => some ((d, .ct (.ex (.int k2 (k2.wrap p)))) :: L)
        | _, _ => none
      | .build t ps =>
        match ps.toList, hasL T.ar t with
        | [(0, x), (1, y)], true =>
          match ev L x, ev L y with
          | some (.ct c1), some (.ct c2) => match c1.one, c2.one with
            | true, true => some ((d, .ct (.fr (aggT [c1, c2]))) :: L)
            | _, _ => none
          | _, _ => none
        | _, _ => none
      | _ => none
  | _, _ => none
def goB (T : Tb) (n : Nat) (B : BL) : Nat → Pl → AL → Option (Pl × AL)
  | 0, l, L => some (l, L)
  | m + 1, .cons o k r, L => match stepB T n B L o k with
    | some L' => goB T n B m r L'
    | none => none
  | _ + 1, _, _ => none
variable {X : Ctx} {L : AL} {B : BL} {ops : Array Oper} {K : Act → World → Prop} {T : Tb}
theorem stepB_ok (hT : T.ok X.P) {o : Oper} {k : Kd} {r : Pl} {L' : AL} (h : stepB T X.n B L o k = some L') (hr : Ops X ops r L' B K) : Ops X ops (.cons o k r) L B K := by
  obtain ⟨dst, op, t', pos, af, g⟩ := o
  cases dst with
  | none => simp [stepB] at h
  | some d =>
    cases g with
    | some g => simp [stepB] at h
    | none =>
      unfold stepB at h; dsimp only at h
      cases hn : Nat.blt d X.n with
      | false => rw [hn] at h; simp at h
      | true =>
        rw [hn] at h; dsimp only at h
        cases op with
        | move x =>
          simp only [Option.map_eq_some_iff] at h; obtain ⟨s, h1, rfl⟩ := h; exact Qq J h1 hn hr
        | fieldAddr t x f =>
          simp only at h; split at h
          · rename_i off hF
            obtain ⟨sz, hF⟩ := hT.fld _ (fldL_mem hF); split at h
            · rename_i i hx
              split at h
              · rename_i tt cs hi
                injection h with h; subst h
                exact QV J hx hi hF hn hr
              · cases h
            · rename_i i o hx
              injection h with h; subst h
              exact XK J hx hF hn hr
            · cases h
          · cases h
        | load t x =>
          simp only at h; split at h
          · rename_i hk hD
            split at h
            · rename_i i o hx
              split at h
              · rename_i e hi
                simp only [Option.map_eq_some_iff] at h; obtain ⟨c, hc, rfl⟩ := h; exact QY hk J hx hi hc (hT.one _ (hasL_mem hD)) hn hr
              · cases h
            · cases h
          · cases h
        | convert src dst x =>
          simp only at h; split at h
          · rename_i k2 k1 p h1 hx
            injection h with h; subst h
            obtain ⟨⟨D, h2⟩, h3⟩ := hT.cv _ (cvL_mem h1)
            exact Xe J hx h2 h3 J hn hr
          · cases h
        | build t ps =>
          simp only at h; split at h
          · rename_i x y hp hA
            split at h
            · rename_i c1 c2 hx hy
              split at h
              · rename_i o1 o2
                injection h with h; subst h
                obtain ⟨el, v0, v1, hT⟩ := hT.ar _ (hasL_mem hA); obtain ⟨pl⟩ := ps; have hp : pl = [(0, x), (1, y)] := hp; subst hp; exact ZU (n := 1) (cs := [c1, c2]) J hT (.one J hx o1 J (.one J hy o2 J .nil)) hn hr
              · cases h
            · cases h
          · cases h
        | _ => simp at h
theorem goB_ok (hT : T.ok X.P) : ∀ (m : Nat) (l : Pl) (L : AL) (r : Pl) (L' : AL), goB T X.n B m l L = some (r, L') → Ops X ops r L' B K → Ops X ops l L B K
  | 0, l, L, r, L', h, hr => by
    simp only [goB, Option.some.injEq, Prod.mk.injEq] at h
    obtain ⟨rfl, rfl⟩ := h
    exact hr
  | m + 1, .cons o k q, L, r, L', h, hr => by
    simp only [goB] at h
    split at h
    · rename_i L2 h2
      exact stepB_ok hT h2 (goB_ok hT m q L2 r L' h hr)
    · cases h
  | _ + 1, .nil, _, _, _, h, _ => by simp [goB] at h
  | _ + 1, .fork .., _, _, _, h, _ => by simp [goB] at h
theorem Ops.batchP (hT : T.ok X.P) (m : Nat) (ord' : Od) (L' : AL) {lst : List Oper} {ord : Od} (h1 : goB T X.n B m (pick lst ord) L = some (pick lst ord', L')) (L2 : AL) (h3 : subL L' L2) (h : Ops X ops (pick lst ord') L2 B K) : Ops X ops (pick lst ord) L B K :=
  goB_ok hT m _ L _ L' h1 (fun a ρ w hI => h a ρ w (hI.subL h3))
end Go.Own
namespace Go.Proofs.YtlkdkbdgnjcopaaGreat
open Go.Own
attribute [local irreducible] St Ops Go.Own.Fin Ok OkB OkN OkT OkL OkF
structure Rs where
  va : Int
  ru : Int
  nu : Int
  tm : Int
  dst : Fin 4294967296
  pr : Int
  fl : Int
  tt : Int
  an : Bool
  db : Bool
  bk : Int
  fr : Fin 4294967296
  ki : Int
  co : Int
  le : Int
  id : Int
  qu : Int
deriving DecidableEq
theorem wrap_fin (x : Fin 4294967296) : IntKind.i64.wrap (x.val : Int) = (x.val : Int) := Z2 (by have := x.isLt; omega) (by have := x.isLt; omega)
def rs0 : Rs := ⟨0, 0, 0, 0, 0, 0, 0, 0, false, false, 0, 0, 0, 0, 0, 0, 0⟩
instance : Inhabited Rs := ⟨rs0⟩
def rsA (r : Rs) : List Am := [.i .i64 r.va, .i .i64 r.ru, .i .i64 r.nu, .i .i64 r.tm, .i .u32 r.dst.val, .i .i64 r.pr, .i .i64 r.fl, .i .i64 r.tt, .b r.an, .b r.db, .i .i64 r.bk]
def anA (r : Rs) : List Am := [.i .u32 r.fr.val, .i .i64 r.ki, .i .i64 r.co, .i .i64 r.le, .i .i64 r.id, .i .i64 r.qu]
abbrev rsCs (r : Rs) : List CT := [intC r.va, intC r.ru, intC r.nu, intC r.tm, adrC r.dst.val, intC r.pr, intC r.fl, intC r.tt, boolC r.an, boolC r.db, intC r.bk, adrC r.fr.val, intC r.ki, intC r.co, intC r.le, intC r.id, intC r.qu]
abbrev rsC (r : Rs) : CT := .fr (aggT (rsCs r))
abbrev rssC (l : List Rs) : CT := .fr (sliceT 17 (l.map rsCs))
def rss (l : List Rs) : List CT := (l.map rsCs).flatten
def rsV (r : Rs) : List Value := [.int .i64 r.va, .int .i64 r.ru, .int .i64 r.nu, .int .i64 r.tm, .int .u32 r.dst.val, .int .i64 r.pr, .int .i64 r.fl, .int .i64 r.tt, .bool r.an, .bool r.db, .int .i64 r.bk, .int .u32 r.fr.val, .int .i64 r.ki, .int .i64 r.co, .int .i64 r.le, .int .i64 r.id, .int .i64 r.qu]
theorem Z7 (r : Rs) : (rsCs r).length = 17 := rfl
theorem rss_frozen (e : Nat) (l : List Rs) : (Ent.row e 17 (rss l)).frozen (sliceT 17 (l.map rsCs)) :=
  ⟨_, rfl, fun e he => by obtain ⟨m, _, rfl⟩ := List.mem_map.mp he; rfl, by decide, rfl⟩
theorem Xd {l : List Rs} {j : Int} (h0 : 0 ≤ j) (h : j < (l.length : Int)) : (l.map rsCs)[j.toNat]? = some (rsCs (l.getD j.toNat rs0)) := by
  have : j.toNat < l.length := by omega
  simp [List.getElem?_map, List.getElem?_eq_getElem this, List.getD_eq_getElem?_getD]
theorem rss_len (l : List Rs) : (rss l).length = l.length * 17 := el_len Z7 l
theorem rss_app (l m : List Rs) : rss (l ++ m) = rss l ++ rss m := by simp [rss]
theorem rsA_inj {x y : Rs} : (rsA x = rsA y ∧ anA x = anA y) ↔ x = y := by
  obtain ⟨a1, a2, a3, a4, a5, a6, a7, a8, a9, a10, a11, a12, a13, a14, a15, a16, a17⟩ := x; obtain ⟨b1, b2, b3, b4, b5, b6, b7, b8, b9, b10, b11, b12, b13, b14, b15, b16, b17⟩ := y; simp only [rsA, anA, List.cons.injEq, Am.i.injEq, Am.b.injEq, true_and, and_true, Rs.mk.injEq, Int.ofNat_inj, Fin.val_inj]; constructor
  · rintro ⟨⟨h1, h2, h3, h4, h5, h6, h7, h8, h9, h10, h11⟩, h12, h13, h14, h15, h16, h17⟩
    exact ⟨h1, h2, h3, h4, h5, h6, h7, h8, h9, h10, h11, h12, h13, h14, h15, h16, h17⟩
  · rintro ⟨h1, h2, h3, h4, h5, h6, h7, h8, h9, h10, h11, h12, h13, h14, h15, h16, h17⟩
    exact ⟨⟨h1, h2, h3, h4, h5, h6, h7, h8, h9, h10, h11⟩, h12, h13, h14, h15, h16, h17⟩
theorem Z4 : (Tryz.prog.info? 35).map (·.size) = some 17 := by kernel_rfl
theorem szAns : (Tryz.prog.info? 33).map (·.size) = some 6 := by kernel_rfl
theorem lRes : LdN Tryz.prog 35 17 := LdN.of _ Tryz.underlying35 rfl (by kernel_rfl)
theorem lAns : LdN Tryz.prog 33 6 := LdN.of _ Tryz.underlying33 rfl (by kernel_rfl)
abbrev zRes : Value := .agg #[.int .i64 0, .int .i64 0, .int .i64 0, .int .i64 0, .int .u32 0, .int .i64 0, .int .i64 0, .int .i64 0, .bool false, .bool false, .int .i64 0, .int .u32 0, .int .i64 0, .int .i64 0, .int .i64 0, .int .i64 0, .int .i64 0]
theorem zvRes : (Tryz.prog.info? 35).map (·.zero) = some (some zRes) := by kernel_rfl
theorem zvAns : (Tryz.prog.info? 33).map (·.zero) = some (some (.agg #[.int .u32 0, .int .i64 0, .int .i64 0, .int .i64 0, .int .i64 0, .int .i64 0])) := by kernel_rfl
theorem sRes : SlcT Tryz.prog 29 35 17 128 zRes := SlcT.of Tryz.underlying29 (by kernel_rfl) rfl (by decide)
theorem lRess : Ld1 Tryz.prog 29 := Ld1.of _ Tryz.underlying29 rfl
theorem bRes : bInfo Tryz.prog 35 = some (zRes, [(0, some 1), (1, some 1), (2, some 1), (3, some 1), (4, some 1), (5, some 1), (6, some 1), (7, some 1), (8, some 1), (9, some 1), (10, some 1), (11, some 6)]) := by kernel_rfl
theorem bAns : bInfo Tryz.prog 33 = some (.agg #[.int .u32 0, .int .i64 0, .int .i64 0, .int .i64 0, .int .i64 0, .int .i64 0], [(0, some 1), (1, some 1), (2, some 1), (3, some 1), (4, some 1), (5, some 1)]) := by kernel_rfl
theorem fS0 : fldInfo Tryz.prog 35 0 = some (0, some 1) := by kernel_rfl
theorem fS1 : fldInfo Tryz.prog 35 1 = some (1, some 1) := by kernel_rfl
theorem fS2 : fldInfo Tryz.prog 35 2 = some (2, some 1) := by kernel_rfl
theorem fS3 : fldInfo Tryz.prog 35 3 = some (3, some 1) := by kernel_rfl
theorem fS4 : fldInfo Tryz.prog 35 4 = some (4, some 1) := by kernel_rfl
theorem fS5 : fldInfo Tryz.prog 35 5 = some (5, some 1) := by kernel_rfl
theorem fS6 : fldInfo Tryz.prog 35 6 = some (6, some 1) := by kernel_rfl
theorem fS7 : fldInfo Tryz.prog 35 7 = some (7, some 1) := by kernel_rfl
theorem fS8 : fldInfo Tryz.prog 35 8 = some (8, some 1) := by kernel_rfl
theorem fS9 : fldInfo Tryz.prog 35 9 = some (9, some 1) := by kernel_rfl
theorem fS10 : fldInfo Tryz.prog 35 10 = some (10, some 1) := by kernel_rfl
theorem fS11 : fldInfo Tryz.prog 35 11 = some (11, some 6) := by kernel_rfl
theorem fN0 : fldInfo Tryz.prog 33 0 = some (0, some 1) := by kernel_rfl
theorem fN1 : fldInfo Tryz.prog 33 1 = some (1, some 1) := by kernel_rfl
theorem fN2 : fldInfo Tryz.prog 33 2 = some (2, some 1) := by kernel_rfl
theorem fN3 : fldInfo Tryz.prog 33 3 = some (3, some 1) := by kernel_rfl
theorem fN4 : fldInfo Tryz.prog 33 4 = some (4, some 1) := by kernel_rfl
theorem fN5 : fldInfo Tryz.prog 33 5 = some (5, some 1) := by kernel_rfl
theorem lBool1 : Ld1 Tryz.prog 4 := Ld1.of _ Tryz.underlying4 rfl
theorem zBool1 : (Tryz.prog.info? 4).map (·.size) = some 1 := by kernel_rfl
theorem eRes : EqN Tryz.prog 35 33 [.int .i64, .int .i64, .int .i64, .int .i64, .int .u32, .int .i64, .int .i64, .int .i64, .bool, .bool, .int .i64] [.int .u32, .int .i64, .int .i64, .int .i64, .int .i64, .int .i64] :=
  ⟨by kernel_rfl, by kernel_rfl, by kernel_rfl, by kernel_rfl, by kernel_rfl, by kernel_rfl, by kernel_rfl, by kernel_rfl, by kernel_rfl⟩
def rsT : Tb := ⟨[(35, 0, 0), (35, 1, 1), (35, 2, 2), (35, 3, 3), (35, 4, 4), (35, 5, 5), (35, 6, 6), (35, 7, 7), (35, 8, 8), (35, 9, 9), (35, 10, 10), (35, 11, 11), (33, 0, 0), (33, 1, 1), (33, 2, 2), (33, 3, 3), (33, 4, 4), (33, 5, 5)], [3, 27, 4], [(27, 3, .i64)], [173]⟩
theorem rsT_ok : rsT.ok Tryz.prog := by
  refine ⟨fun p hp => ?_, fun t ht => ?_, fun p hp => ?_, fun t ht => ?_⟩
  · simp only [rsT, List.mem_cons, List.not_mem_nil, or_false] at hp; rcases hp with rfl | rfl | rfl | rfl | rfl | rfl | rfl | rfl | rfl | rfl | rfl | rfl | rfl | rfl | rfl | rfl | rfl | rfl
    · exact ⟨0, fS0⟩
    · exact ⟨0, fS1⟩
    · exact ⟨0, fS2⟩
    · exact ⟨0, fS3⟩
    · exact ⟨0, fS4⟩
    · exact ⟨0, fS5⟩
    · exact ⟨0, fS6⟩
    · exact ⟨0, fS7⟩
    · exact ⟨0, fS8⟩
    · exact ⟨0, fS9⟩
    · exact ⟨0, fS10⟩
    · exact ⟨5, fS11⟩
    · exact ⟨0, fN0⟩
    · exact ⟨0, fN1⟩
    · exact ⟨0, fN2⟩
    · exact ⟨0, fN3⟩
    · exact ⟨0, fN4⟩
    · exact ⟨0, fN5⟩
  · simp only [rsT, List.mem_cons, List.not_mem_nil, or_false] at ht; rcases ht with rfl | rfl | rfl
    · exact lInt
    · exact lAddr
    · exact lBool1
  · simp only [rsT, List.mem_cons, List.not_mem_nil, or_false] at hp; subst hp; exact ⟨⟨_, uAddr⟩, uInt'⟩
  · simp only [rsT, List.mem_cons, List.not_mem_nil, or_false] at ht; subst ht; exact ⟨_, _, _, aPair⟩
section
variable {X : Ctx} {L : AL} {B : BL} {ops : Array Oper} {K : Act → World → Prop} {r : Pl} {k : Kd}
  {x y : Operand} {d : Nat} {t t2 t' : TypeId} {pos : String} {af : Array Edge} {g : Option (Nat × Bool)}
theorem eqRs (p q : Rs) (hg : gd ops L g = some true) (hx : ev L x = some (.ct (rsC p))) (hy : ev L y = some (.ct (rsC q))) (hP : X.P = Tryz.prog) (hn : Nat.blt d X.n = true)
    (h : Ops X ops r ((d, .ct (boolC (decide (p = q)))) :: L) B K) : Ops X ops (.cons ⟨some d, .binOp .eql 35 x y t2, t', pos, af, g⟩ k r) L B K :=
  Ops.eqN (rsA p) (anA p) (rsA q) (anA q) hg hx hy rfl rfl rfl rfl (hP ▸ eRes) hn (by rw [decide_eq_decide.2 rsA_inj]; exact h)
theorem neRs (p q : Rs) (hg : gd ops L g = some true) (hx : ev L x = some (.ct (rsC p))) (hy : ev L y = some (.ct (rsC q))) (hP : X.P = Tryz.prog) (hn : Nat.blt d X.n = true)
    (h : Ops X ops r ((d, .ct (boolC (!decide (p = q)))) :: L) B K) : Ops X ops (.cons ⟨some d, .binOp .neq 35 x y t2, t', pos, af, g⟩ k r) L B K :=
  Ops.neN (rsA p) (anA p) (rsA q) (anA q) hg hx hy rfl rfl rfl rfl (hP ▸ eRes) hn (by rw [decide_eq_decide.2 rsA_inj]; exact h)
end
def anI (r : Rs) : List Int := [(r.fr.val : Int), r.ki, r.co, r.le, r.id, r.qu]
def P1 (r : Rs) : Prop := r.va < 0 ∨ 15 < r.va ∨ r.ru < 0 ∨ 63 < r.ru ∨ r.nu < 0 ∨ 999 < r.nu ∨ r.tm < 0 ∨ 2251799813685248 < r.tm ∨ r.bk < 0 ∨ 2251799813685248 < r.bk ∨ r.bk < r.tm ∨ r.fl < 0 ∨ 1023 < r.fl ∨ r.tt < 1 ∨ 255 < r.tt
def P2 (r : Rs) : Prop := r.pr ≠ 1 ∧ r.pr ≠ 6 ∧ r.pr ≠ 17
def P3 (r : Rs) : Prop := r.an = false ∧ (r.db = true ∨ anI r ≠ [0, 0, 0, 0, 0, 0])
def P4 (r : Rs) : Prop := r.an = true ∧ (r.ki < 1 ∨ 5 < r.ki ∨ r.co < 0 ∨ 255 < r.co ∨ r.le < 0 ∨ 255 < r.le ∨ r.qu < 0 ∨ 255 < r.qu ∨ r.id < 0 ∨ 65535 < r.id)
instance (r : Rs) : Decidable (P1 r) := by unfold P1; infer_instance
instance (r : Rs) : Decidable (P2 r) := by unfold P2; infer_instance
instance (r : Rs) : Decidable (P3 r) := by unfold P3; infer_instance
instance (r : Rs) : Decidable (P4 r) := by unfold P4; infer_instance
def ckE (r : Rs) : Int := if P1 r then 1 else if P2 r then 16 else if P3 r then 7 else if P4 r then 1 else 0
def okR (r : Rs) : Bool := decide (ckE r = 0) && (decide (r.dst.val ≠ 0) && (!r.an || decide (r.fr.val ≠ 0)))
theorem eAns : EqS Tryz.prog 33 [.u32, .i64, .i64, .i64, .i64, .i64] := ⟨by kernel_rfl, by kernel_rfl, by kernel_rfl, by kernel_rfl⟩
theorem gowithin : InGo Tryz.prog 144 := InGo.of Tryz.func144 rfl (by decide)
theorem gojrun : InGo Tryz.prog 143 := InGo.of Tryz.func143 rfl (by decide)
theorem gojCheck : InGo Tryz.prog 114 := InGo.of Tryz.func114 rfl (by decide)
theorem gorident : InGo Tryz.prog 157 := InGo.of Tryz.func157 rfl (by decide)
theorem gooctet : InGo Tryz.prog 158 := InGo.of Tryz.func158 rfl (by decide)
theorem gorCheckR : InGo Tryz.prog 119 := InGo.of Tryz.func119 rfl (by decide)
theorem goValidR : InGo Tryz.prog 73 := InGo.of Tryz.func73 rfl (by decide)
theorem gorValidR : InGo Tryz.prog 79 := InGo.of Tryz.func79 rfl (by decide)
theorem within_ok (n m : Int) : Ok Tryz.prog 144 [intC n, intC m] (boolC (decide (0 ≤ n ∧ n ≤ m))) := by
  refine Ok.enter Tryz.func144 J _ Tryz.ntmps144 J ?_
  intro S w; refine Qw (Qx fun K hK => ?_); refine Qv J J J (Qj (hK _ _ (Qz (Qw ?_)))); clear hK K; refine Qx (fun K hK => ?_); refine Qq J J J (Qk igeq J J J J (Qq J J J (Q7 7 J (fun h => ?_) (fun h => ?_))))
  · refine Qq J J J (Qq J J J (Qk ileq J J J J (QJ J J J J (Qv J J J (Qj (hK _ _ (Qz (Q0 ?_)))))))); clear hK K; refine QU [_] rfl (Qu J QQ) (by rw [show decide (0 ≤ n ∧ n ≤ m) = decide (n ≤ m) from decide_eq_decide.2 ⟨fun h2 => h2.2, fun h2 => ⟨h, h2⟩⟩]; rfl) J
  · refine Qy J J J (Qy J J J (Qy J J J (QK J J J J (Qv J J J (Qj (hK _ _ (Qz (Q0 ?_)))))))); clear hK K; refine QU [_] rfl (Qu J QQ) (by rw [decide_eq_false (fun h2 : 0 ≤ n ∧ n ≤ m => h h2.1)]; rfl) J
theorem octet_ok (n : Int) : Ok Tryz.prog 158 [intC n] (boolC (decide (0 ≤ n ∧ n ≤ 255))) := by
  refine Ok.enter Tryz.func158 J _ Tryz.ntmps158 J ?_
  intro S w; refine Qw (Qx fun K hK => ?_); refine Qv J J J (Qj (hK _ _ (Qz (Qw ?_)))); clear hK K; refine Qx (fun K hK => ?_); refine Qq J J J (Qk igeq J J J J (Qq J J J (Q7 5 J (fun h => ?_) (fun h => ?_))))
  · refine Qq J J J (Qk ileq J J J J (QJ J J J J (Qv J J J (Qj (hK _ _ (Qz (Q0 ?_))))))); clear hK K; refine QU [_] rfl (Qu J QQ) (by rw [show decide (0 ≤ n ∧ n ≤ 255) = decide (n ≤ 255) from decide_eq_decide.2 ⟨fun h2 => h2.2, fun h2 => ⟨h, h2⟩⟩]; rfl) J
  · refine Qy J J J (Qy J J J (QK J J J J (Qv J J J (Qj (hK _ _ (Qz (Q0 ?_))))))); clear hK K; refine QU [_] rfl (Qu J QQ) (by rw [decide_eq_false (fun h2 : 0 ≤ n ∧ n ≤ 255 => h h2.1)]; rfl) J
theorem jrun_ok (n m : Int) : Ok Tryz.prog 143 [intC n, intC m] (boolC (decide ((0 ≤ n ∧ n ≤ 15) ∧ 0 ≤ m ∧ m ≤ 63))) := by
  refine Ok.enter Tryz.func143 J _ Tryz.ntmps143 J ?_
  intro S w; refine Qw (Qx fun K hK => ?_); refine Qv J J J (Qj (hK _ _ (Qz (Qw ?_)))); clear hK K; refine Qx (fun K hK => ?_); refine Qq J J J (QW gowithin (within_ok n 15) J J J J (Qq J J J (Q7 7 J (fun h => ?_) (fun h => ?_))))
  · refine Qq J J J (QW gowithin (within_ok m 63) J J J J (QJ J J J J (Qv J J J (Qj (hK _ _ (Qz (Q0 ?_))))))); clear hK K; refine QU [_] rfl (Qu J QQ) (by rw [show decide ((0 ≤ n ∧ n ≤ 15) ∧ 0 ≤ m ∧ m ≤ 63) = decide (0 ≤ m ∧ m ≤ 63) from decide_eq_decide.2 ⟨fun h2 => h2.2, fun h2 => ⟨h, h2⟩⟩]; rfl) J
  · refine Qy J J J (Qy J J J (QK J J J J (Qv J J J (Qj (hK _ _ (Qz (Q0 ?_))))))); clear hK K; refine QU [_] rfl (Qu J QQ) (by rw [decide_eq_false (fun h2 : (0 ≤ n ∧ n ≤ 15) ∧ 0 ≤ m ∧ m ≤ 63 => h h2.1)]; rfl) J
theorem rident_ok (n m : Int) : Ok Tryz.prog 157 [intC n, intC m] (boolC (decide ((0 ≤ n ∧ n ≤ 15) ∧ 0 ≤ m ∧ m ≤ 63))) := by
  refine Ok.enter Tryz.func157 J _ Tryz.ntmps157 J ?_
  intro S w; refine Qw (Qx fun K hK => ?_); refine Qv J J J (Qj (hK _ _ (Qz (Qw ?_)))); clear hK K; refine Qx (fun K hK => ?_); refine Qq J J J (Qk igeq J J J J (Qq J J J (Q7 7 J (fun h => ?_) (fun h => ?_)))); rotate_left
  · refine Qy J J J (Qy J J J (QK J J J J (Qq J J J (Qy J J J (Qy J J J (QK J J J J (Qq J J J (Qy J J J (Qy J J J (QK J J J J (Qv J J J (Qj (hK _ _ (Qz (Q0 ?_))))))))))))))); clear hK K; refine QU [_] rfl (Qu J QQ) (by rw [decide_eq_false (fun h2 : (0 ≤ n ∧ n ≤ 15) ∧ 0 ≤ m ∧ m ≤ 63 => by omega)]; rfl) J
  refine Qq J J J (Qk ilss J J J J (QJ J J J J (Qq J J J (Q7 11 J (fun h3 => ?_) (fun h3 => ?_))))); rotate_left
  · refine Qy J J J (Qy J J J (QK J J J J (Qq J J J (Qy J J J (Qy J J J (QK J J J J (Qv J J J (Qj (hK _ _ (Qz (Q0 ?_))))))))))); clear hK K; refine QU [_] rfl (Qu J QQ) (by rw [decide_eq_false (fun h2 : (0 ≤ n ∧ n ≤ 15) ∧ 0 ≤ m ∧ m ≤ 63 => by omega)]; rfl) J
  refine Qq J J J (Qk igeq J J J J (QJ J J J J (Qq J J J (Q7 15 J (fun h4 => ?_) (fun h4 => ?_))))); rotate_left
  · refine Qy J J J (Qy J J J (QK J J J J (Qv J J J (Qj (hK _ _ (Qz (Q0 ?_))))))); clear hK K; refine QU [_] rfl (Qu J QQ) (by rw [decide_eq_false (fun h2 : (0 ≤ n ∧ n ≤ 15) ∧ 0 ≤ m ∧ m ≤ 63 => by omega)]; rfl) J
  refine Qq J J J (Qk ilss J J J J (QJ J J J J (Qv J J J (Qj (hK _ _ (Qz (Q0 ?_))))))); clear hK K; refine QU [_] rfl (Qu J QQ) (by rw [show decide ((0 ≤ n ∧ n ≤ 15) ∧ 0 ≤ m ∧ m ≤ 63) = decide (m < 64) from decide_eq_decide.2 ⟨fun h2 => by omega, fun h2 => by omega⟩]; rfl) J
set_option maxHeartbeats 4000000 in
theorem jCheck_ok (r : Rs) : Ok Tryz.prog 114 [rsC r] (intC (ckE r)) := by
  refine Ok.enter Tryz.func114 J _ Tryz.ntmps114 J ?_
  intro S w; refine Qw (Qx fun K hK => ?_); refine Xz 0 J J J J J J J (Qv J J J (Qj (hK _ _ (Qz (Qw ?_))))); clear hK K; refine Qx (fun K hK => ?_); refine QV J J J fS11 J (Ops.ldNA (n := 6) J J J J (Nat.le_of_ble_eq_true J) lAns J (Qg 1 J J zvAns J J J (Qa 6 J J J J J szAns J J (Qj (hK _ _ (Qz (Qw (Q5 (Qw (Qw ?_)))))))))); clear hK K; refine Qx (fun K hK => ?_); refine QV J J J fS0 J (QY J J J J J lInt J (QV J J J fS1 J (QY J J J J J lInt J (QW gojrun (jrun_ok r.va r.ru) J J J J (Q7 11 J (fun h1 => ?_) (fun h1 => ?_)))))); rotate_left
  · refine Qm J J J (Qv J J J (Qj (hK _ _ (Qz (Qp J (Q1 (Qz (Qp J (Qw ?_))))))))); clear hK K; refine Qx (fun K hK => ?_); refine Qv J J J (Qj (hK _ _ (Qz (Q0 (Q3 (QZ ?_)))))); clear hK K; refine QU [_] rfl (Qu J QQ) (by rw [show ckE r = 1 from if_pos (by unfold P1; omega)]; rfl) J
  refine Qm J J J (Qv J J J (Qj (hK _ _ (Qz (Xv J (Qw ?_)))))); clear hK K; refine Qx (fun K hK => ?_); refine QV J J J fS2 J (QY J J J J J lInt J (QW gowithin (within_ok r.nu 999) J J J J (Q7 15 J (fun h2 => ?_) (fun h2 => ?_)))); rotate_left
  · refine Qm J J J (Qv J J J (Qj (hK _ _ (Qz (Qp J (Q1 (Qz (Qp J (Qw ?_))))))))); clear hK K; refine Qx (fun K hK => ?_); refine Qv J J J (Qj (hK _ _ (Qz (Q0 (Q3 (QZ ?_)))))); clear hK K; refine QU [_] rfl (Qu J QQ) (by rw [show ckE r = 1 from if_pos (by unfold P1; omega)]; rfl) J
  refine Qm J J J (Qv J J J (Qj (hK _ _ (Qz (Xv J (Qw ?_)))))); clear hK K; refine Qx (fun K hK => ?_); refine QV J J J fS3 J (QY J J J J J lInt J (QW gowithin (within_ok r.tm 2251799813685248) J J J J (Q7 19 J (fun h3 => ?_) (fun h3 => ?_)))); rotate_left
  · refine Qm J J J (Qv J J J (Qj (hK _ _ (Qz (Qp J (Q1 (Qz (Qp J (Qw ?_))))))))); clear hK K; refine Qx (fun K hK => ?_); refine Qv J J J (Qj (hK _ _ (Qz (Q0 (Q3 (QZ ?_)))))); clear hK K; refine QU [_] rfl (Qu J QQ) (by rw [show ckE r = 1 from if_pos (by unfold P1; omega)]; rfl) J
  refine Qm J J J (Qv J J J (Qj (hK _ _ (Qz (Xv J (Qw ?_)))))); clear hK K; refine Qx (fun K hK => ?_); refine QV J J J fS10 J (QY J J J J J lInt J (QW gowithin (within_ok r.bk 2251799813685248) J J J J (Q7 23 J (fun h4 => ?_) (fun h4 => ?_)))); rotate_left
  · refine Qm J J J (Qv J J J (Qj (hK _ _ (Qz (Qp J (Q1 (Qz (Qp J (Qw ?_))))))))); clear hK K; refine Qx (fun K hK => ?_); refine Qv J J J (Qj (hK _ _ (Qz (Q0 (Q3 (QZ ?_)))))); clear hK K; refine QU [_] rfl (Qu J QQ) (by rw [show ckE r = 1 from if_pos (by unfold P1; omega)]; rfl) J
  refine Qm J J J (Qv J J J (Qj (hK _ _ (Qz (Xv J (Qw ?_)))))); clear hK K; refine Qx (fun K hK => ?_); refine QV J J J fS10 J (QY J J J J J lInt J (QV J J J fS3 J (QY J J J J J lInt J (Qk ilss J J J J (Qv J J J (Qj (hK _ _ (Qz ?_)))))))); clear hK K; refine Q2 J (fun h5 => ?_) (fun h5 => ?_)
  · refine Q1 (Qz ?_); refine Q2 J (fun _ => ?_) (fun h => absurd h5 h); refine Qw (Qx fun K hK => ?_); refine Qv J J J (Qj (hK _ _ (Qz (Q0 (Q3 (QZ ?_)))))); clear hK K; refine QU [_] rfl (Qu J QQ) (by rw [show ckE r = 1 from if_pos (by unfold P1; omega)]; rfl) J
  refine Qw (Qx fun K hK => ?_); refine QV J J J fS6 J (QY J J J J J lInt J (QW gowithin (within_ok r.fl 1023) J J J J (Q7 32 J (fun h6 => ?_) (fun h6 => ?_)))); rotate_left
  · refine Qm J J J (Qv J J J (Qj (hK _ _ (Qz (Qp J (Q1 (Qz (Qp J (Qw ?_))))))))); clear hK K; refine Qx (fun K hK => ?_); refine Qv J J J (Qj (hK _ _ (Qz (Q0 (Q3 (QZ ?_)))))); clear hK K; refine QU [_] rfl (Qu J QQ) (by rw [show ckE r = 1 from if_pos (by unfold P1; omega)]; rfl) J
  refine Qm J J J (Qv J J J (Qj (hK _ _ (Qz (Xv J ?_))))); clear hK K; refine Qx (fun K hK => ?_); refine QV J J J fS7 J (QY J J J J J lInt J (Qk ilss J J J J (Qq J J J (Q7 37 J (fun h7 => ?_) (fun h7 => ?_)))))
  · refine Qy J J J (Qy J J J (Qy J J J (QJ J J J J (Qv J J J (Qj (hK _ _ (Qz (Qp J (Qw ?_))))))))); clear hK K; refine Qx (fun K hK => ?_); refine Qv J J J (Qj (hK _ _ (Qz (Q0 (Q3 (QZ ?_)))))); clear hK K; refine QU [_] rfl (Qu J QQ) (by rw [show ckE r = 1 from if_pos (by unfold P1; omega)]; rfl) J
  refine QV J J J fS7 J (QY J J J J J lInt J (Qk igtr J J J J (QK J J J J (Qv J J J (Qj (hK _ _ (Qz ?_))))))); clear hK K; refine Q2 J (fun h8 => ?_) (fun h8 => ?_)
  · refine Qw (Qx fun K hK => ?_); refine Qv J J J (Qj (hK _ _ (Qz (Q0 (Q3 (QZ ?_)))))); clear hK K; refine QU [_] rfl (Qu J QQ) (by rw [show ckE r = 1 from if_pos (by unfold P1; omega)]; rfl) J
  have n1 : ¬ P1 r := by unfold P1; omega
  clear h1 h2 h3 h4 h5 h6 h7 h8; refine Qw (Xo (α := Bool) (fun b => b = decide (P2 r)) (fun b => [(1, .own 0), (3, .own 1), (42, .ct (boolC b))]) (fun _ => [(1, .box 33 [adrC r.fr.val, intC r.ki, intC r.co, intC r.le, intC r.id, intC r.qu]), (0, .box 35 (rsCs r))]) (fun b hb => ?_) (fun KK hN => ?_)); rotate_left
  · refine Qx (fun K hK => ?_); refine QV J J J fS5 J (QY J J J J J lInt J (Qk ineq J J J J (Qq J J J (Q7 46 J (fun h9 => ?_) (fun h9 => ?_)))))
    · refine QV J J J fS5 J (QY J J J J J lInt J (Qk ineq J J J J (QJ J J J J (Qq J J J (Q7 51 J (fun h10 => ?_) (fun h10 => ?_))))))
      · refine QV J J J fS5 J (QY J J J J J lInt J (Qk ineq J J J J (QJ J J J J (Qv J J J (Qj (hK _ _ ?_)))))); clear hK K; exact Qr hN (decide (r.pr ≠ 17)) (decide_eq_decide.2 ⟨fun h => ⟨h9, h10, h⟩, fun h => h.2.2⟩) (by exact QX J ⟨rfl, rfl, rfl, trivial⟩)
      · refine Qy J J J (Qy J J J (Qy J J J (QK J J J J (Qv J J J (Qj (hK _ _ ?_)))))); clear hK K; exact Qr hN false (decide_eq_false (fun h => h10 h.2.1)).symm (by exact QX J ⟨rfl, rfl, rfl, trivial⟩)
    · refine Qy J J J (Qy J J J (Qy J J J (QK J J J J (Qq J J J (Qy J J J (Qy J J J (Qy J J J (QK J J J J (Qv J J J (Qj (hK _ _ ?_))))))))))); clear hK K; exact Qr hN false (decide_eq_false (fun h => h9 h.1)).symm (by exact QX J ⟨rfl, rfl, rfl, trivial⟩)
  subst hb; skip; refine XZ J (fun h9 => ?_) (fun h9 => ?_)
  · refine Qw (Qx fun K hK => ?_); refine Qv J J J (Qj (hK _ _ (Qz (Q0 (Q3 (QZ ?_)))))); clear hK K; refine QU [_] rfl (Qu J QQ) (by rw [show ckE r = 16 from (if_neg n1).trans (if_pos (of_decide_eq_true h9))]; rfl) J
  have n2 : ¬ P2 r := of_decide_eq_false h9; have hbx : rsCs r = [intC r.va, intC r.ru, intC r.nu, intC r.tm, adrC r.dst.val, intC r.pr, intC r.fl, intC r.tt, boolC r.an, boolC r.db, intC r.bk, adrC r.fr.val, intC r.ki, intC r.co, intC r.le, intC r.id, intC r.qu] := rfl; rw [hbx]; clear hbx h9; have e3 : P3 r = (r.an = false ∧ (r.db = true ∨ anI r ≠ [0, 0, 0, 0, 0, 0])) := rfl; have e4 : P4 r = (r.an = true ∧ (r.ki < 1 ∨ 5 < r.ki ∨ r.co < 0 ∨ 255 < r.co ∨ r.le < 0 ∨ 255 < r.le ∨ r.qu < 0 ∨ 255 < r.qu ∨ r.id < 0 ∨ 65535 < r.id)) := rfl; generalize han : r.an = an at e3 e4 ⊢; generalize hdb : r.db = db at e3 ⊢
  cases an with
  | false =>
    cases db with
    | true =>
      refine Qw (Qw (Qx fun K hK => ?_)); refine QV J J J fS9 J (QY J J J J J lBool1 J (Qq J J J (QV J J J fS8 J (QY J J J J J lBool1 J (Qm J J J (QJ J J J J (Qv J J J (Qj (hK _ _ (Qz (Qp J (Q1 (Qz (Qp J (Qw ?_))))))))))))))); clear hK K; refine Qx (fun K hK => ?_); refine Qv J J J (Qj (hK _ _ (Qz (Q0 (Q3 (QZ ?_)))))); clear hK K; refine QU [_] rfl (Qu J QQ) (by rw [show ckE r = 7 from (if_neg n1).trans ((if_neg n2).trans (if_pos (by rw [e3]; exact ⟨rfl, .inl J⟩)))]; rfl) J
    | false =>
      refine Qw (Qw (Qx fun K hK => ?_)); refine QV J J J fS9 J (QY J J J J J lBool1 J (Qq J J J (Qy J J J (Qy J J J (Qy J J J (QK J J J J (Qv J J J (Qj (hK _ _ (Qz (Xv J ?_))))))))))); clear hK K; refine Qx (fun K hK => ?_); refine QV J J J fS8 J (QY J J J J J lBool1 J (Qm J J J (Qq J J J (Q6 (n := 6) J J J J J lAns J (Qi J bAns J .nil J (Ops.neS (ks := [.u32, .i64, .i64, .i64, .i64, .i64]) (anI r) [0, 0, 0, 0, 0, 0] rfl rfl rfl rfl rfl eAns J (QJ J J J J (Qv J J J (Qj (hK _ _ (Qz ?_))))))))))); clear hK K; refine XZ J (fun k0 => ?_) (fun k0 => ?_)
      · refine Qw (Qx fun K hK => ?_); refine Qv J J J (Qj (hK _ _ (Qz (Q0 (Q3 (QZ ?_)))))); clear hK K; refine QU [_] rfl (Qu J QQ) (by rw [show ckE r = 7 from (if_neg n1).trans ((if_neg n2).trans (if_pos (by rw [e3]; exact ⟨rfl, .inr (of_decide_eq_false (by simpa using k0))⟩)))]; rfl) J
      · have n3 : ¬ P3 r := by rw [e3]; exact fun h => h.2.elim (fun h => by cases h) (fun h => h (by simpa using k0))
        have n4 : ¬ P4 r := by rw [e4]; exact fun h => by cases h.1
        refine Qw (Qx fun K hK => ?_); refine QV J J J fS8 J (QY J J J J J lBool1 J (Qq J J J (Qy J J J (Qy J J J (Qy J J J (Qy J J J (Qy J J J (Qy J J J (Qy J J J (Qy J J J (Qy J J J (Qy J J J (Qy J J J (Qy J J J (Qy J J J (Qy J J J (Qy J J J (Qy J J J (Qy J J J (Qy J J J (Qy J J J (Qy J J J (Qy J J J (Qy J J J (Qy J J J (Qy J J J (Qy J J J (Qy J J J (Qy J J J (Qy J J J (Qy J J J (Qy J J J (Qy J J J (Qy J J J (QK J J J J (Qv J J J (Qj (hK _ _ (Qz (Xv J (Q1 (Qz (Qw ?_))))))))))))))))))))))))))))))))))))))))))); clear hK K; refine Qx (fun K hK => ?_); refine Qv J J J (Qj (hK _ _ (Qz (Q0 ?_)))); clear hK K; refine QU [_] rfl (Qu J QQ) (by rw [show ckE r = 0 from (if_neg n1).trans ((if_neg n2).trans ((if_neg n3).trans (if_neg n4)))]; rfl) J
  | true =>
    have n3 : ¬ P3 r := by rw [e3]; exact fun h => by cases h.1
    cases db with
    | false =>
      refine Qw (Qw (Qx fun K hK => ?_)); refine QV J J J fS9 J (QY J J J J J lBool1 J (Qq J J J (Qy J J J (Qy J J J (Qy J J J (QK J J J J (Qv J J J (Qj (hK _ _ (Qz (Xv J ?_))))))))))); clear hK K; refine Qx (fun K hK => ?_); refine QV J J J fS8 J (QY J J J J J lBool1 J (Qm J J J (Qq J J J (Qy J J J (Qy J J J (Qy J J J (QK J J J J (Qv J J J (Qj (hK _ _ (Qz (Xv J (Qw ?_))))))))))))); clear hK K; refine Qx (fun K hK => ?_); refine QV J J J fS8 J (QY J J J J J lBool1 J (Qq J J J (QV J J J fN1 J (QY J J J J J lInt J (Qk ilss J J J J (Qq J J J (Q7 79 J (fun k1 => ?_) (fun k1 => ?_))))))))
      · refine Qy J J J (Qy J J J (Qy J J J (QJ J J J J (Qq J J J (Qy J J J (Qy J J J (Qy J J J (Qy J J J (QJ J J J J (Qq J J J (Qy J J J (Qy J J J (Qy J J J (Qy J J J (QJ J J J J (Qq J J J (Qy J J J (Qy J J J (Qy J J J (Qy J J J (QJ J J J J (Qq J J J (Qy J J J (Qy J J J (Qy J J J (Qy J J J (QJ J J J J (QJ J J J J (Qv J J J (Qj (hK _ _ (Qz (Qp J (Qw ?_)))))))))))))))))))))))))))))))))); clear hK K; refine Qx (fun K hK => ?_); refine Qv J J J (Qj (hK _ _ (Qz (Q0 (Q3 (QZ ?_)))))); clear hK K; refine QU [_] rfl (Qu J QQ) (by rw [show ckE r = 1 from (if_neg n1).trans ((if_neg n2).trans ((if_neg n3).trans (if_pos (by rw [e4]; exact ⟨rfl, by omega⟩))))]; rfl) J
      refine QV J J J fN1 J (QY J J J J J lInt J (Qk igtr J J J J (QK J J J J (Qq J J J (Q7 84 J (fun k2 => ?_) (fun k2 => ?_))))))
      · refine Qy J J J (Qy J J J (Qy J J J (Qy J J J (QJ J J J J (Qq J J J (Qy J J J (Qy J J J (Qy J J J (Qy J J J (QJ J J J J (Qq J J J (Qy J J J (Qy J J J (Qy J J J (Qy J J J (QJ J J J J (Qq J J J (Qy J J J (Qy J J J (Qy J J J (Qy J J J (QJ J J J J (QJ J J J J (Qv J J J (Qj (hK _ _ (Qz (Qp J (Qw ?_))))))))))))))))))))))))))))); clear hK K; refine Qx (fun K hK => ?_); refine Qv J J J (Qj (hK _ _ (Qz (Q0 (Q3 (QZ ?_)))))); clear hK K; refine QU [_] rfl (Qu J QQ) (by rw [show ckE r = 1 from (if_neg n1).trans ((if_neg n2).trans ((if_neg n3).trans (if_pos (by rw [e4]; exact ⟨rfl, by omega⟩))))]; rfl) J
      refine QV J J J fN2 J (QY J J J J J lInt J (QW gowithin (within_ok r.co 255) J J J J (Q7 87 J (fun k3 => ?_) (fun k3 => ?_)))); rotate_left
      · refine Qm J J J (QK J J J J (Qq J J J (Qy J J J (Qy J J J (Qy J J J (Qy J J J (QJ J J J J (Qq J J J (Qy J J J (Qy J J J (Qy J J J (Qy J J J (QJ J J J J (Qq J J J (Qy J J J (Qy J J J (Qy J J J (Qy J J J (QJ J J J J (QJ J J J J (Qv J J J (Qj (hK _ _ (Qz (Qp J (Qw ?_)))))))))))))))))))))))))); clear hK K; refine Qx (fun K hK => ?_); refine Qv J J J (Qj (hK _ _ (Qz (Q0 (Q3 (QZ ?_)))))); clear hK K; refine QU [_] rfl (Qu J QQ) (by rw [show ckE r = 1 from (if_neg n1).trans ((if_neg n2).trans ((if_neg n3).trans (if_pos (by rw [e4]; exact ⟨rfl, by omega⟩))))]; rfl) J
      refine Qm J J J (QK J J J J (Qq J J J (QV J J J fN3 J (QY J J J J J lInt J (QW gowithin (within_ok r.le 255) J J J J (Q7 93 J (fun k4 => ?_) (fun k4 => ?_))))))); rotate_left
      · refine Qm J J J (QK J J J J (Qq J J J (Qy J J J (Qy J J J (Qy J J J (Qy J J J (QJ J J J J (Qq J J J (Qy J J J (Qy J J J (Qy J J J (Qy J J J (QJ J J J J (QJ J J J J (Qv J J J (Qj (hK _ _ (Qz (Qp J (Qw ?_)))))))))))))))))))); clear hK K; refine Qx (fun K hK => ?_); refine Qv J J J (Qj (hK _ _ (Qz (Q0 (Q3 (QZ ?_)))))); clear hK K; refine QU [_] rfl (Qu J QQ) (by rw [show ckE r = 1 from (if_neg n1).trans ((if_neg n2).trans ((if_neg n3).trans (if_pos (by rw [e4]; exact ⟨rfl, by omega⟩))))]; rfl) J
      refine Qm J J J (QK J J J J (Qq J J J (QV J J J fN5 J (QY J J J J J lInt J (QW gowithin (within_ok r.qu 255) J J J J (Q7 99 J (fun k5 => ?_) (fun k5 => ?_))))))); rotate_left
      · refine Qm J J J (QK J J J J (Qq J J J (Qy J J J (Qy J J J (Qy J J J (Qy J J J (QJ J J J J (QJ J J J J (Qv J J J (Qj (hK _ _ (Qz (Qp J (Qw ?_)))))))))))))); clear hK K; refine Qx (fun K hK => ?_); refine Qv J J J (Qj (hK _ _ (Qz (Q0 (Q3 (QZ ?_)))))); clear hK K; refine QU [_] rfl (Qu J QQ) (by rw [show ckE r = 1 from (if_neg n1).trans ((if_neg n2).trans ((if_neg n3).trans (if_pos (by rw [e4]; exact ⟨rfl, by omega⟩))))]; rfl) J
      refine Qm J J J (QK J J J J (Qq J J J (QV J J J fN4 J (QY J J J J J lInt J (QW gowithin (within_ok r.id 65535) J J J J (Q7 105 J (fun k6 => ?_) (fun k6 => ?_))))))); rotate_left
      · refine Qm J J J (QK J J J J (QJ J J J J (Qv J J J (Qj (hK _ _ (Qz (Qp J (Qw ?_)))))))); clear hK K; refine Qx (fun K hK => ?_); refine Qv J J J (Qj (hK _ _ (Qz (Q0 (Q3 (QZ ?_)))))); clear hK K; refine QU [_] rfl (Qu J QQ) (by rw [show ckE r = 1 from (if_neg n1).trans ((if_neg n2).trans ((if_neg n3).trans (if_pos (by rw [e4]; exact ⟨rfl, by omega⟩))))]; rfl) J
      have n4 : ¬ P4 r := by rw [e4]; exact fun h => by have := h.2; omega
      refine Qm J J J (QK J J J J (QJ J J J J (Qv J J J (Qj (hK _ _ (Qz (Xv J (Q1 (Qz (Qw ?_)))))))))); clear hK K; refine Qx (fun K hK => ?_); refine Qv J J J (Qj (hK _ _ (Qz (Q0 ?_)))); clear hK K; refine QU [_] rfl (Qu J QQ) (by rw [show ckE r = 0 from (if_neg n1).trans ((if_neg n2).trans ((if_neg n3).trans (if_neg n4)))]; rfl) J
    | true =>
      refine Qw (Qw (Qx fun K hK => ?_)); refine QV J J J fS9 J (QY J J J J J lBool1 J (Qq J J J (QV J J J fS8 J (QY J J J J J lBool1 J (Qm J J J (QJ J J J J (Qv J J J (Qj (hK _ _ (Qz (Xv J ?_))))))))))); clear hK K; refine Qx (fun K hK => ?_); refine QV J J J fS8 J (QY J J J J J lBool1 J (Qm J J J (Qq J J J (Qy J J J (Qy J J J (Qy J J J (QK J J J J (Qv J J J (Qj (hK _ _ (Qz (Xv J (Qw ?_))))))))))))); clear hK K; refine Qx (fun K hK => ?_); refine QV J J J fS8 J (QY J J J J J lBool1 J (Qq J J J (QV J J J fN1 J (QY J J J J J lInt J (Qk ilss J J J J (Qq J J J (Q7 79 J (fun k1 => ?_) (fun k1 => ?_))))))))
      · refine Qy J J J (Qy J J J (Qy J J J (QJ J J J J (Qq J J J (Qy J J J (Qy J J J (Qy J J J (Qy J J J (QJ J J J J (Qq J J J (Qy J J J (Qy J J J (Qy J J J (Qy J J J (QJ J J J J (Qq J J J (Qy J J J (Qy J J J (Qy J J J (Qy J J J (QJ J J J J (Qq J J J (Qy J J J (Qy J J J (Qy J J J (Qy J J J (QJ J J J J (QJ J J J J (Qv J J J (Qj (hK _ _ (Qz (Qp J (Qw ?_)))))))))))))))))))))))))))))))))); clear hK K; refine Qx (fun K hK => ?_); refine Qv J J J (Qj (hK _ _ (Qz (Q0 (Q3 (QZ ?_)))))); clear hK K; refine QU [_] rfl (Qu J QQ) (by rw [show ckE r = 1 from (if_neg n1).trans ((if_neg n2).trans ((if_neg n3).trans (if_pos (by rw [e4]; exact ⟨rfl, by omega⟩))))]; rfl) J
      refine QV J J J fN1 J (QY J J J J J lInt J (Qk igtr J J J J (QK J J J J (Qq J J J (Q7 84 J (fun k2 => ?_) (fun k2 => ?_))))))
      · refine Qy J J J (Qy J J J (Qy J J J (Qy J J J (QJ J J J J (Qq J J J (Qy J J J (Qy J J J (Qy J J J (Qy J J J (QJ J J J J (Qq J J J (Qy J J J (Qy J J J (Qy J J J (Qy J J J (QJ J J J J (Qq J J J (Qy J J J (Qy J J J (Qy J J J (Qy J J J (QJ J J J J (QJ J J J J (Qv J J J (Qj (hK _ _ (Qz (Qp J (Qw ?_))))))))))))))))))))))))))))); clear hK K; refine Qx (fun K hK => ?_); refine Qv J J J (Qj (hK _ _ (Qz (Q0 (Q3 (QZ ?_)))))); clear hK K; refine QU [_] rfl (Qu J QQ) (by rw [show ckE r = 1 from (if_neg n1).trans ((if_neg n2).trans ((if_neg n3).trans (if_pos (by rw [e4]; exact ⟨rfl, by omega⟩))))]; rfl) J
      refine QV J J J fN2 J (QY J J J J J lInt J (QW gowithin (within_ok r.co 255) J J J J (Q7 87 J (fun k3 => ?_) (fun k3 => ?_)))); rotate_left
      · refine Qm J J J (QK J J J J (Qq J J J (Qy J J J (Qy J J J (Qy J J J (Qy J J J (QJ J J J J (Qq J J J (Qy J J J (Qy J J J (Qy J J J (Qy J J J (QJ J J J J (Qq J J J (Qy J J J (Qy J J J (Qy J J J (Qy J J J (QJ J J J J (QJ J J J J (Qv J J J (Qj (hK _ _ (Qz (Qp J (Qw ?_)))))))))))))))))))))))))); clear hK K; refine Qx (fun K hK => ?_); refine Qv J J J (Qj (hK _ _ (Qz (Q0 (Q3 (QZ ?_)))))); clear hK K; refine QU [_] rfl (Qu J QQ) (by rw [show ckE r = 1 from (if_neg n1).trans ((if_neg n2).trans ((if_neg n3).trans (if_pos (by rw [e4]; exact ⟨rfl, by omega⟩))))]; rfl) J
      refine Qm J J J (QK J J J J (Qq J J J (QV J J J fN3 J (QY J J J J J lInt J (QW gowithin (within_ok r.le 255) J J J J (Q7 93 J (fun k4 => ?_) (fun k4 => ?_))))))); rotate_left
      · refine Qm J J J (QK J J J J (Qq J J J (Qy J J J (Qy J J J (Qy J J J (Qy J J J (QJ J J J J (Qq J J J (Qy J J J (Qy J J J (Qy J J J (Qy J J J (QJ J J J J (QJ J J J J (Qv J J J (Qj (hK _ _ (Qz (Qp J (Qw ?_)))))))))))))))))))); clear hK K; refine Qx (fun K hK => ?_); refine Qv J J J (Qj (hK _ _ (Qz (Q0 (Q3 (QZ ?_)))))); clear hK K; refine QU [_] rfl (Qu J QQ) (by rw [show ckE r = 1 from (if_neg n1).trans ((if_neg n2).trans ((if_neg n3).trans (if_pos (by rw [e4]; exact ⟨rfl, by omega⟩))))]; rfl) J
      refine Qm J J J (QK J J J J (Qq J J J (QV J J J fN5 J (QY J J J J J lInt J (QW gowithin (within_ok r.qu 255) J J J J (Q7 99 J (fun k5 => ?_) (fun k5 => ?_))))))); rotate_left
      · refine Qm J J J (QK J J J J (Qq J J J (Qy J J J (Qy J J J (Qy J J J (Qy J J J (QJ J J J J (QJ J J J J (Qv J J J (Qj (hK _ _ (Qz (Qp J (Qw ?_)))))))))))))); clear hK K; refine Qx (fun K hK => ?_); refine Qv J J J (Qj (hK _ _ (Qz (Q0 (Q3 (QZ ?_)))))); clear hK K; refine QU [_] rfl (Qu J QQ) (by rw [show ckE r = 1 from (if_neg n1).trans ((if_neg n2).trans ((if_neg n3).trans (if_pos (by rw [e4]; exact ⟨rfl, by omega⟩))))]; rfl) J
      refine Qm J J J (QK J J J J (Qq J J J (QV J J J fN4 J (QY J J J J J lInt J (QW gowithin (within_ok r.id 65535) J J J J (Q7 105 J (fun k6 => ?_) (fun k6 => ?_))))))); rotate_left
      · refine Qm J J J (QK J J J J (QJ J J J J (Qv J J J (Qj (hK _ _ (Qz (Qp J (Qw ?_)))))))); clear hK K; refine Qx (fun K hK => ?_); refine Qv J J J (Qj (hK _ _ (Qz (Q0 (Q3 (QZ ?_)))))); clear hK K; refine QU [_] rfl (Qu J QQ) (by rw [show ckE r = 1 from (if_neg n1).trans ((if_neg n2).trans ((if_neg n3).trans (if_pos (by rw [e4]; exact ⟨rfl, by omega⟩))))]; rfl) J
      have n4 : ¬ P4 r := by rw [e4]; exact fun h => by have := h.2; omega
      refine Qm J J J (QK J J J J (QJ J J J J (Qv J J J (Qj (hK _ _ (Qz (Xv J (Q1 (Qz (Qw ?_)))))))))); clear hK K; refine Qx (fun K hK => ?_); refine Qv J J J (Qj (hK _ _ (Qz (Q0 ?_)))); clear hK K; refine QU [_] rfl (Qu J QQ) (by rw [show ckE r = 0 from (if_neg n1).trans ((if_neg n2).trans ((if_neg n3).trans (if_neg n4)))]; rfl) J
set_option maxHeartbeats 4000000 in
theorem rCheckR_ok (r : Rs) : Ok Tryz.prog 119 [rsC r] (intC (ckE r)) := by
  refine Ok.enter Tryz.func119 J _ Tryz.ntmps119 J ?_
  intro S w; refine Qw (Qx fun K hK => ?_); refine Xz 0 J J J J J J J (Qv J J J (Qj (hK _ _ (Qz (Qw (Qw ?_)))))); clear hK K; refine Qx (fun K hK => ?_); refine QV J J J fS0 J (QY J J J J J lInt J (QV J J J fS1 J (QY J J J J J lInt J (QW gorident (rident_ok r.va r.ru) J J J J (Q7 8 J (fun h1 => ?_) (fun h1 => ?_)))))); rotate_left
  · refine Qm J J J (Qq J J J (Qy J J J (Qy J J J (Qy J J J (QJ J J J J (Qq J J J (Qy J J J (Qy J J J (Qy J J J (QJ J J J J (Qq J J J (Qy J J J (Qy J J J (Qy J J J (QJ J J J J (Qq J J J (Qy J J J (Qy J J J (Qy J J J (QJ J J J J (Qq J J J (Qy J J J (Qy J J J (Qy J J J (Qy J J J (Qy J J J (QJ J J J J (Qq J J J (Qy J J J (Qy J J J (Qy J J J (QJ J J J J (Qq J J J (Qy J J J (Qy J J J (Qy J J J (QJ J J J J (Qq J J J (Qy J J J (Qy J J J (Qy J J J (QJ J J J J (Qq J J J (Qy J J J (Qy J J J (Qy J J J (QJ J J J J (Qq J J J (Qy J J J (Qy J J J (Qy J J J (QJ J J J J (Qj (hK _ _ (Qz (Qp J (Qw ?_))))))))))))))))))))))))))))))))))))))))))))))))))))))))); clear hK K; refine Qx (fun K hK => ?_); refine Qv J J J (Qj (hK _ _ (Qz (Q0 (QZ ?_))))); clear hK K; refine QU [_] rfl (Qu J QQ) (by rw [show ckE r = 1 from if_pos (by unfold P1; omega)]; rfl) J
  refine Qm J J J (Qq J J J (QV J J J fS2 J (QY J J J J J lInt J (Qk ilss J J J J (QK J J J J (Qq J J J (Q7 15 J (fun g0 => ?_) (fun g0 => ?_))))))))
  · refine Qy J J J (Qy J J J (Qy J J J (QJ J J J J (Qq J J J (Qy J J J (Qy J J J (Qy J J J (QJ J J J J (Qq J J J (Qy J J J (Qy J J J (Qy J J J (QJ J J J J (Qq J J J (Qy J J J (Qy J J J (Qy J J J (Qy J J J (Qy J J J (QJ J J J J (Qq J J J (Qy J J J (Qy J J J (Qy J J J (QJ J J J J (Qq J J J (Qy J J J (Qy J J J (Qy J J J (QJ J J J J (Qq J J J (Qy J J J (Qy J J J (Qy J J J (QJ J J J J (Qq J J J (Qy J J J (Qy J J J (Qy J J J (QJ J J J J (Qq J J J (Qy J J J (Qy J J J (Qy J J J (QJ J J J J (Qj (hK _ _ (Qz (Qp J (Qw ?_)))))))))))))))))))))))))))))))))))))))))))))))))); clear hK K; refine Qx (fun K hK => ?_); refine Qv J J J (Qj (hK _ _ (Qz (Q0 (QZ ?_))))); clear hK K; refine QU [_] rfl (Qu J QQ) (by rw [show ckE r = 1 from if_pos (by unfold P1; omega)]; rfl) J
  refine QV J J J fS2 J (QY J J J J J lInt J (Qk igeq J J J J (QK J J J J (Qq J J J (Q7 20 J (fun g1 => ?_) (fun g1 => ?_))))))
  · refine Qy J J J (Qy J J J (Qy J J J (QJ J J J J (Qq J J J (Qy J J J (Qy J J J (Qy J J J (QJ J J J J (Qq J J J (Qy J J J (Qy J J J (Qy J J J (Qy J J J (Qy J J J (QJ J J J J (Qq J J J (Qy J J J (Qy J J J (Qy J J J (QJ J J J J (Qq J J J (Qy J J J (Qy J J J (Qy J J J (QJ J J J J (Qq J J J (Qy J J J (Qy J J J (Qy J J J (QJ J J J J (Qq J J J (Qy J J J (Qy J J J (Qy J J J (QJ J J J J (Qq J J J (Qy J J J (Qy J J J (Qy J J J (QJ J J J J (Qj (hK _ _ (Qz (Qp J (Qw ?_))))))))))))))))))))))))))))))))))))))))))))); clear hK K; refine Qx (fun K hK => ?_); refine Qv J J J (Qj (hK _ _ (Qz (Q0 (QZ ?_))))); clear hK K; refine QU [_] rfl (Qu J QQ) (by rw [show ckE r = 1 from if_pos (by unfold P1; omega)]; rfl) J
  refine QV J J J fS3 J (QY J J J J J lInt J (Qk ilss J J J J (QK J J J J (Qq J J J (Q7 25 J (fun g2 => ?_) (fun g2 => ?_))))))
  · refine Qy J J J (Qy J J J (Qy J J J (QJ J J J J (Qq J J J (Qy J J J (Qy J J J (Qy J J J (Qy J J J (Qy J J J (QJ J J J J (Qq J J J (Qy J J J (Qy J J J (Qy J J J (QJ J J J J (Qq J J J (Qy J J J (Qy J J J (Qy J J J (QJ J J J J (Qq J J J (Qy J J J (Qy J J J (Qy J J J (QJ J J J J (Qq J J J (Qy J J J (Qy J J J (Qy J J J (QJ J J J J (Qq J J J (Qy J J J (Qy J J J (Qy J J J (QJ J J J J (Qj (hK _ _ (Qz (Qp J (Qw ?_)))))))))))))))))))))))))))))))))))))))); clear hK K; refine Qx (fun K hK => ?_); refine Qv J J J (Qj (hK _ _ (Qz (Q0 (QZ ?_))))); clear hK K; refine QU [_] rfl (Qu J QQ) (by rw [show ckE r = 1 from if_pos (by unfold P1; omega)]; rfl) J
  refine QV J J J fS3 J (QY J J J J J lInt J (Qk igtr J J J J (QK J J J J (Qq J J J (Q7 30 J (fun g3 => ?_) (fun g3 => ?_))))))
  · refine Qy J J J (Qy J J J (Qy J J J (Qy J J J (Qy J J J (QJ J J J J (Qq J J J (Qy J J J (Qy J J J (Qy J J J (QJ J J J J (Qq J J J (Qy J J J (Qy J J J (Qy J J J (QJ J J J J (Qq J J J (Qy J J J (Qy J J J (Qy J J J (QJ J J J J (Qq J J J (Qy J J J (Qy J J J (Qy J J J (QJ J J J J (Qq J J J (Qy J J J (Qy J J J (Qy J J J (QJ J J J J (Qj (hK _ _ (Qz (Qp J (Qw ?_))))))))))))))))))))))))))))))))))); clear hK K; refine Qx (fun K hK => ?_); refine Qv J J J (Qj (hK _ _ (Qz (Q0 (QZ ?_))))); clear hK K; refine QU [_] rfl (Qu J QQ) (by rw [show ckE r = 1 from if_pos (by unfold P1; omega)]; rfl) J
  refine QV J J J fS10 J (QY J J J J J lInt J (QV J J J fS3 J (QY J J J J J lInt J (Qk ilss J J J J (QK J J J J (Qq J J J (Q7 37 J (fun g4 => ?_) (fun g4 => ?_))))))))
  · refine Qy J J J (Qy J J J (Qy J J J (QJ J J J J (Qq J J J (Qy J J J (Qy J J J (Qy J J J (QJ J J J J (Qq J J J (Qy J J J (Qy J J J (Qy J J J (QJ J J J J (Qq J J J (Qy J J J (Qy J J J (Qy J J J (QJ J J J J (Qq J J J (Qy J J J (Qy J J J (Qy J J J (QJ J J J J (Qj (hK _ _ (Qz (Qp J (Qw ?_)))))))))))))))))))))))))))); clear hK K; refine Qx (fun K hK => ?_); refine Qv J J J (Qj (hK _ _ (Qz (Q0 (QZ ?_))))); clear hK K; refine QU [_] rfl (Qu J QQ) (by rw [show ckE r = 1 from if_pos (by unfold P1; omega)]; rfl) J
  refine QV J J J fS10 J (QY J J J J J lInt J (Qk igtr J J J J (QK J J J J (Qq J J J (Q7 42 J (fun g5 => ?_) (fun g5 => ?_))))))
  · refine Qy J J J (Qy J J J (Qy J J J (QJ J J J J (Qq J J J (Qy J J J (Qy J J J (Qy J J J (QJ J J J J (Qq J J J (Qy J J J (Qy J J J (Qy J J J (QJ J J J J (Qq J J J (Qy J J J (Qy J J J (Qy J J J (QJ J J J J (Qj (hK _ _ (Qz (Qp J (Qw ?_))))))))))))))))))))))); clear hK K; refine Qx (fun K hK => ?_); refine Qv J J J (Qj (hK _ _ (Qz (Q0 (QZ ?_))))); clear hK K; refine QU [_] rfl (Qu J QQ) (by rw [show ckE r = 1 from if_pos (by unfold P1; omega)]; rfl) J
  refine QV J J J fS6 J (QY J J J J J lInt J (Qk ilss J J J J (QK J J J J (Qq J J J (Q7 47 J (fun g6 => ?_) (fun g6 => ?_))))))
  · refine Qy J J J (Qy J J J (Qy J J J (QJ J J J J (Qq J J J (Qy J J J (Qy J J J (Qy J J J (QJ J J J J (Qq J J J (Qy J J J (Qy J J J (Qy J J J (QJ J J J J (Qj (hK _ _ (Qz (Qp J (Qw ?_)))))))))))))))))); clear hK K; refine Qx (fun K hK => ?_); refine Qv J J J (Qj (hK _ _ (Qz (Q0 (QZ ?_))))); clear hK K; refine QU [_] rfl (Qu J QQ) (by rw [show ckE r = 1 from if_pos (by unfold P1; omega)]; rfl) J
  refine QV J J J fS6 J (QY J J J J J lInt J (Qk igtr J J J J (QK J J J J (Qq J J J (Q7 52 J (fun g7 => ?_) (fun g7 => ?_))))))
  · refine Qy J J J (Qy J J J (Qy J J J (QJ J J J J (Qq J J J (Qy J J J (Qy J J J (Qy J J J (QJ J J J J (Qj (hK _ _ (Qz (Qp J (Qw ?_))))))))))))); clear hK K; refine Qx (fun K hK => ?_); refine Qv J J J (Qj (hK _ _ (Qz (Q0 (QZ ?_))))); clear hK K; refine QU [_] rfl (Qu J QQ) (by rw [show ckE r = 1 from if_pos (by unfold P1; omega)]; rfl) J
  refine QV J J J fS7 J (QY J J J J J lInt J (Qk ilss J J J J (QK J J J J (Qq J J J (Q7 57 J (fun g8 => ?_) (fun g8 => ?_))))))
  · refine Qy J J J (Qy J J J (Qy J J J (QJ J J J J (Qj (hK _ _ (Qz (Qp J (Qw ?_)))))))); clear hK K; refine Qx (fun K hK => ?_); refine Qv J J J (Qj (hK _ _ (Qz (Q0 (QZ ?_))))); clear hK K; refine QU [_] rfl (Qu J QQ) (by rw [show ckE r = 1 from if_pos (by unfold P1; omega)]; rfl) J
  refine QV J J J fS7 J (QY J J J J J lInt J (Qk igtr J J J J (QK J J J J (Qj (hK _ _ (Qz ?_)))))); clear hK K; refine Q2 J (fun h8 => ?_) (fun h8 => ?_)
  · refine Qw (Qx fun K hK => ?_); refine Qv J J J (Qj (hK _ _ (Qz (Q0 (QZ ?_))))); clear hK K; refine QU [_] rfl (Qu J QQ) (by rw [show ckE r = 1 from if_pos (by unfold P1; omega)]; rfl) J
  have n1 : ¬ P1 r := by unfold P1; omega
  clear h1 h8 g0 g1 g2 g3 g4 g5 g6 g7 g8; refine Q1 (Qz (Qw (Qw (Xo (α := Bool) (fun b => b = decide (P2 r)) (fun b => [(1, .own 0), (74, .ct (boolC b))]) (fun _ => [(0, .box 35 (rsCs r))]) (fun b hb => ?_) (fun KK hN => ?_))))); rotate_left
  · refine Qx (fun K hK => ?_); refine QV J J J fS5 J (QY J J J J J lInt J (Qk ineq J J J J (Qq J J J (Q7 65 J (fun h9 => ?_) (fun h9 => ?_)))))
    · refine QV J J J fS5 J (QY J J J J J lInt J (Qk ineq J J J J (QJ J J J J (Qq J J J (Q7 70 J (fun h10 => ?_) (fun h10 => ?_))))))
      · refine QV J J J fS5 J (QY J J J J J lInt J (Qk ineq J J J J (QJ J J J J (Qj (hK _ _ ?_))))); clear hK K; exact Qr hN (decide (r.pr ≠ 17)) (decide_eq_decide.2 ⟨fun h => ⟨h9, h10, h⟩, fun h => h.2.2⟩) (by exact QX J ⟨rfl, rfl, trivial⟩)
      · refine Qy J J J (Qy J J J (Qy J J J (QK J J J J (Qj (hK _ _ ?_))))); clear hK K; exact Qr hN false (decide_eq_false (fun h => h10 h.2.1)).symm (by exact QX J ⟨rfl, rfl, trivial⟩)
    · refine Qy J J J (Qy J J J (Qy J J J (QK J J J J (Qq J J J (Qy J J J (Qy J J J (Qy J J J (QK J J J J (Qj (hK _ _ ?_)))))))))); clear hK K; exact Qr hN false (decide_eq_false (fun h => h9 h.1)).symm (by exact QX J ⟨rfl, rfl, trivial⟩)
  subst hb; skip; refine XZ J (fun h9 => ?_) (fun h9 => ?_)
  · refine Qw (Qx fun K hK => ?_); refine Qv J J J (Qj (hK _ _ (Qz (Q0 (QZ ?_))))); clear hK K; refine QU [_] rfl (Qu J QQ) (by rw [show ckE r = 16 from (if_neg n1).trans (if_pos (of_decide_eq_true h9))]; rfl) J
  have n2 : ¬ P2 r := of_decide_eq_false h9; refine Q1 (Qz (Qw (Qx fun K hK => ?_))); refine QV J J J fS11 J (Ops.ldNA (n := 6) J J J J (Nat.le_of_ble_eq_true J) lAns J (Qg 1 J J zvAns J J J (Qa 6 J J J J J szAns J J ?_))); have hbx : rsCs r = [intC r.va, intC r.ru, intC r.nu, intC r.tm, adrC r.dst.val, intC r.pr, intC r.fl, intC r.tt, boolC r.an, boolC r.db, intC r.bk, adrC r.fr.val, intC r.ki, intC r.co, intC r.le, intC r.id, intC r.qu] := rfl; rw [hbx]; clear hbx h9; have e3 : P3 r = (r.an = false ∧ (r.db = true ∨ anI r ≠ [0, 0, 0, 0, 0, 0])) := rfl; have e4 : P4 r = (r.an = true ∧ (r.ki < 1 ∨ 5 < r.ki ∨ r.co < 0 ∨ 255 < r.co ∨ r.le < 0 ∨ 255 < r.le ∨ r.qu < 0 ∨ 255 < r.qu ∨ r.id < 0 ∨ 65535 < r.id)) := rfl; generalize han : r.an = an at e3 e4 ⊢; generalize hdb : r.db = db at e3 ⊢
  cases an with
  | false =>
    cases db with
    | true =>
      refine Qj (hK _ _ (Qz (Qw (Qw ?_)))); clear hK K; refine Qx (fun K hK => ?_); refine QV J J J fS8 J (QY J J J J J lBool1 J (Qm J J J (Qq J J J (QV J J J fS9 J (QY J J J J J lBool1 J (Qq J J J (Qy J J J (Qy J J J (Qy J J J (QJ J J J J (QJ J J J J (Qj (hK _ _ (Qz (Qp J (Qw ?_)))))))))))))))); clear hK K; refine Qx (fun K hK => ?_); refine Qv J J J (Qj (hK _ _ (Qz (Q0 (QZ ?_))))); clear hK K; refine QU [_] rfl (Qu J QQ) (by rw [show ckE r = 7 from (if_neg n1).trans ((if_neg n2).trans (if_pos (by rw [e3]; exact ⟨rfl, .inl J⟩)))]; rfl) J
    | false =>
      refine Qj (hK _ _ (Qz (Qw (Qw ?_)))); clear hK K; refine Qx (fun K hK => ?_); refine QV J J J fS8 J (QY J J J J J lBool1 J (Qm J J J (Qq J J J (QV J J J fS9 J (QY J J J J J lBool1 J (Qq J J J (Q6 (n := 6) J J J J J lAns J (Qi J bAns J .nil J (Ops.neS (ks := [.u32, .i64, .i64, .i64, .i64, .i64]) (anI r) [0, 0, 0, 0, 0, 0] rfl rfl rfl rfl rfl eAns J (QK J J J J (QJ J J J J (Qj (hK _ _ (Qz ?_)))))))))))))); clear hK K; refine XZ J (fun k0 => ?_) (fun k0 => ?_)
      · refine Qw (Qx fun K hK => ?_); refine Qv J J J (Qj (hK _ _ (Qz (Q0 (QZ ?_))))); clear hK K; refine QU [_] rfl (Qu J QQ) (by rw [show ckE r = 7 from (if_neg n1).trans ((if_neg n2).trans (if_pos (by rw [e3]; exact ⟨rfl, .inr (of_decide_eq_false (by simpa using k0))⟩)))]; rfl) J
      · have n3 : ¬ P3 r := by rw [e3]; exact fun h => h.2.elim (fun h => by cases h) (fun h => h (by simpa using k0))
        have n4 : ¬ P4 r := by rw [e4]; exact fun h => by cases h.1
        refine Q1 (Qz (Qw (Qw (Qx fun K hK => ?_)))); refine QV J J J fS8 J (QY J J J J J lBool1 J (Qq J J J (Qy J J J (Qy J J J (Qy J J J (Qy J J J (Qy J J J (Qy J J J (Qy J J J (Qy J J J (Qy J J J (Qy J J J (Qy J J J (Qy J J J (Qy J J J (Qy J J J (Qy J J J (Qy J J J (Qy J J J (Qy J J J (Qy J J J (Qy J J J (Qy J J J (Qy J J J (Qy J J J (Qy J J J (Qy J J J (Qy J J J (Qy J J J (Qy J J J (Qy J J J (Qy J J J (Qy J J J (Qy J J J (Qy J J J (Qy J J J (Qy J J J (Qy J J J (QK J J J J (Qj (hK _ _ (Qz (Xv J (Q1 (Qz (Qw ?_)))))))))))))))))))))))))))))))))))))))))))))); clear hK K; refine Qx (fun K hK => ?_); refine Qv J J J (Qj (hK _ _ (Qz (Q0 ?_)))); clear hK K; refine QU [_] rfl (Qu J QQ) (by rw [show ckE r = 0 from (if_neg n1).trans ((if_neg n2).trans ((if_neg n3).trans (if_neg n4)))]; rfl) J
  | true =>
    have n3 : ¬ P3 r := by rw [e3]; exact fun h => by cases h.1
    refine Qj (hK _ _ (Qz (Qw (Qw ?_)))); clear hK K; refine Qx (fun K hK => ?_); refine QV J J J fS8 J (QY J J J J J lBool1 J (Qm J J J (Qq J J J (Qy J J J (Qy J J J (Qy J J J (Qy J J J (Qy J J J (Qy J J J (Qy J J J (QK J J J J (Qj (hK _ _ (Qz (Xv J (Q1 (Qz (Qw (Qw ?_))))))))))))))))))); clear hK K; refine Qx (fun K hK => ?_); refine QV J J J fS8 J (QY J J J J J lBool1 J (Qq J J J (QV J J J fN1 J (QY J J J J J lInt J (Qk ilss J J J J (Qq J J J (Q7 95 J (fun k1 => ?_) (fun k1 => ?_))))))))
    · refine Qy J J J (Qy J J J (Qy J J J (QJ J J J J (Qq J J J (Qy J J J (Qy J J J (Qy J J J (Qy J J J (QJ J J J J (Qq J J J (Qy J J J (Qy J J J (Qy J J J (Qy J J J (QJ J J J J (Qq J J J (Qy J J J (Qy J J J (Qy J J J (Qy J J J (QJ J J J J (Qq J J J (Qy J J J (Qy J J J (Qy J J J (QJ J J J J (Qq J J J (Qy J J J (Qy J J J (Qy J J J (QJ J J J J (QJ J J J J (Qj (hK _ _ (Qz (Qp J (Qw ?_))))))))))))))))))))))))))))))))))))); clear hK K; refine Qx (fun K hK => ?_); refine Qv J J J (Qj (hK _ _ (Qz (Q0 (QZ ?_))))); clear hK K; refine QU [_] rfl (Qu J QQ) (by rw [show ckE r = 1 from (if_neg n1).trans ((if_neg n2).trans ((if_neg n3).trans (if_pos (by rw [e4]; exact ⟨rfl, by omega⟩))))]; rfl) J
    refine QV J J J fN1 J (QY J J J J J lInt J (Qk igtr J J J J (QK J J J J (Qq J J J (Q7 100 J (fun k2 => ?_) (fun k2 => ?_))))))
    · refine Qy J J J (Qy J J J (Qy J J J (Qy J J J (QJ J J J J (Qq J J J (Qy J J J (Qy J J J (Qy J J J (Qy J J J (QJ J J J J (Qq J J J (Qy J J J (Qy J J J (Qy J J J (Qy J J J (QJ J J J J (Qq J J J (Qy J J J (Qy J J J (Qy J J J (QJ J J J J (Qq J J J (Qy J J J (Qy J J J (Qy J J J (QJ J J J J (QJ J J J J (Qj (hK _ _ (Qz (Qp J (Qw ?_)))))))))))))))))))))))))))))))); clear hK K; refine Qx (fun K hK => ?_); refine Qv J J J (Qj (hK _ _ (Qz (Q0 (QZ ?_))))); clear hK K; refine QU [_] rfl (Qu J QQ) (by rw [show ckE r = 1 from (if_neg n1).trans ((if_neg n2).trans ((if_neg n3).trans (if_pos (by rw [e4]; exact ⟨rfl, by omega⟩))))]; rfl) J
    refine QV J J J fN2 J (QY J J J J J lInt J (QW gooctet (octet_ok r.co) J J J J (Q7 103 J (fun k3 => ?_) (fun k3 => ?_)))); rotate_left
    · refine Qm J J J (QK J J J J (Qq J J J (Qy J J J (Qy J J J (Qy J J J (Qy J J J (QJ J J J J (Qq J J J (Qy J J J (Qy J J J (Qy J J J (Qy J J J (QJ J J J J (Qq J J J (Qy J J J (Qy J J J (Qy J J J (QJ J J J J (Qq J J J (Qy J J J (Qy J J J (Qy J J J (QJ J J J J (QJ J J J J (Qj (hK _ _ (Qz (Qp J (Qw ?_))))))))))))))))))))))))))))); clear hK K; refine Qx (fun K hK => ?_); refine Qv J J J (Qj (hK _ _ (Qz (Q0 (QZ ?_))))); clear hK K; refine QU [_] rfl (Qu J QQ) (by rw [show ckE r = 1 from (if_neg n1).trans ((if_neg n2).trans ((if_neg n3).trans (if_pos (by rw [e4]; exact ⟨rfl, by omega⟩))))]; rfl) J
    refine Qm J J J (QK J J J J (Qq J J J (QV J J J fN3 J (QY J J J J J lInt J (QW gooctet (octet_ok r.le) J J J J (Q7 109 J (fun k4 => ?_) (fun k4 => ?_))))))); rotate_left
    · refine Qm J J J (QK J J J J (Qq J J J (Qy J J J (Qy J J J (Qy J J J (Qy J J J (QJ J J J J (Qq J J J (Qy J J J (Qy J J J (Qy J J J (QJ J J J J (Qq J J J (Qy J J J (Qy J J J (Qy J J J (QJ J J J J (QJ J J J J (Qj (hK _ _ (Qz (Qp J (Qw ?_))))))))))))))))))))))); clear hK K; refine Qx (fun K hK => ?_); refine Qv J J J (Qj (hK _ _ (Qz (Q0 (QZ ?_))))); clear hK K; refine QU [_] rfl (Qu J QQ) (by rw [show ckE r = 1 from (if_neg n1).trans ((if_neg n2).trans ((if_neg n3).trans (if_pos (by rw [e4]; exact ⟨rfl, by omega⟩))))]; rfl) J
    refine Qm J J J (QK J J J J (Qq J J J (QV J J J fN5 J (QY J J J J J lInt J (QW gooctet (octet_ok r.qu) J J J J (Q7 115 J (fun k5 => ?_) (fun k5 => ?_))))))); rotate_left
    · refine Qm J J J (QK J J J J (Qq J J J (Qy J J J (Qy J J J (Qy J J J (QJ J J J J (Qq J J J (Qy J J J (Qy J J J (Qy J J J (QJ J J J J (QJ J J J J (Qj (hK _ _ (Qz (Qp J (Qw ?_))))))))))))))))); clear hK K; refine Qx (fun K hK => ?_); refine Qv J J J (Qj (hK _ _ (Qz (Q0 (QZ ?_))))); clear hK K; refine QU [_] rfl (Qu J QQ) (by rw [show ckE r = 1 from (if_neg n1).trans ((if_neg n2).trans ((if_neg n3).trans (if_pos (by rw [e4]; exact ⟨rfl, by omega⟩))))]; rfl) J
    refine Qm J J J (QK J J J J (Qq J J J (QV J J J fN4 J (QY J J J J J lInt J (Qk ilss J J J J (QK J J J J (Qq J J J (Q7 123 J (fun k6 => ?_) (fun k6 => ?_)))))))))
    · refine Qy J J J (Qy J J J (Qy J J J (QJ J J J J (QJ J J J J (Qj (hK _ _ (Qz (Qp J (Qw ?_))))))))); clear hK K; refine Qx (fun K hK => ?_); refine Qv J J J (Qj (hK _ _ (Qz (Q0 (QZ ?_))))); clear hK K; refine QU [_] rfl (Qu J QQ) (by rw [show ckE r = 1 from (if_neg n1).trans ((if_neg n2).trans ((if_neg n3).trans (if_pos (by rw [e4]; exact ⟨rfl, by omega⟩))))]; rfl) J
    refine QV J J J fN4 J (QY J J J J J lInt J (Qk igtr J J J J (QK J J J J (QJ J J J J (Qj (hK _ _ (Qz ?_))))))); clear hK K; refine Q2 J (fun k7 => ?_) (fun k7 => ?_)
    · refine Qw (Qx fun K hK => ?_); refine Qv J J J (Qj (hK _ _ (Qz (Q0 (QZ ?_))))); clear hK K; refine QU [_] rfl (Qu J QQ) (by rw [show ckE r = 1 from (if_neg n1).trans ((if_neg n2).trans ((if_neg n3).trans (if_pos (by rw [e4]; exact ⟨rfl, by omega⟩))))]; rfl) J
    have n4 : ¬ P4 r := by rw [e4]; exact fun h => by have := h.2; omega
    refine Q1 (Qz (Qw (Qx fun K hK => ?_))); refine Qv J J J (Qj (hK _ _ (Qz (Q0 ?_)))); clear hK K; refine QU [_] rfl (Qu J QQ) (by rw [show ckE r = 0 from (if_neg n1).trans ((if_neg n2).trans ((if_neg n3).trans (if_neg n4)))]; rfl) J
set_option maxHeartbeats 4000000 in
theorem ValidR_ok (r : Rs) : Ok Tryz.prog 73 [rsC r] (boolC (okR r)) := by
  have e0 : okR r = (decide (ckE r = 0) && (decide (r.dst.val ≠ 0) && (!r.an || decide (r.fr.val ≠ 0)))) := rfl; have hC := jCheck_ok r; generalize ckE r = e at e0 hC
  refine Ok.enter Tryz.func73 J _ Tryz.ntmps73 J ?_
  intro S w; refine Qw (Qx fun K hK => ?_); refine Xz 0 J J J J J J J (Qv J J J (Qj (hK _ _ (Qz (Qw ?_))))); clear hK K; refine Qx (fun K hK => ?_); refine Q6 (n := 17) J J J J J lRes J (QW gojCheck hC J J J J (Qk ieql J J J J (Qq J J J (Q7 6 J (fun h => ?_) (fun h => ?_))))); rotate_left
  · refine Qy J J J (Qy J J J (Qy J J J (QK J J J J (Qq J J J (Qy J J J (Qy J J J (Qy J J J (Qy J J J (Qy J J J (Qy J J J (Qy J J J (Qy J J J (Qy J J J (QK J J J J (Qv J J J (Qj (hK _ _ (Qz (Q0 ?_))))))))))))))))))); clear hK K; refine QU [_] rfl (Qu J QQ) (by rw [e0, decide_eq_false h]; rfl) J
  rw [decide_eq_true h, Bool.true_and] at e0; refine QV J J J fS4 J (QY J J J J J lAddr J (Qk ineq J J J J (QJ J J J J (Qq J J J (Q7 11 J (fun h2 => ?_) (fun h2 => ?_)))))); rotate_left
  · refine Qy J J J (Qy J J J (Qy J J J (Qy J J J (Qy J J J (Qy J J J (Qy J J J (Qy J J J (Qy J J J (QK J J J J (Qv J J J (Qj (hK _ _ (Qz (Q0 ?_)))))))))))))); clear hK K; refine QU [_] rfl (Qu J QQ) (by rw [e0, decide_eq_false (show ¬ r.dst.val ≠ 0 by omega)]; rfl) J
  rw [decide_eq_true (show r.dst.val ≠ 0 by omega), Bool.true_and] at e0; refine QV J J J fS8 J (QY J J J J J lBool1 J (Qm J J J (Qq J J J (X3 15 J (fun h3 => ?_) (fun h3 => ?_)))))
  · have h3 : r.an = false := by simpa using h3
    refine Qy J J J (Qy J J J (Qy J J J (Qy J J J (QJ J J J J (QJ J J J J (Qv J J J (Qj (hK _ _ (Qz (Q0 ?_)))))))))); clear hK K; refine QU [_] rfl (Qu J QQ) (by rw [e0, h3]; rfl) J
  · have h3 : r.an = true := by simpa using h3
    refine QV J J J fS11 J (XK J J fN0 J (QY J J J J J lAddr J (Qk ineq J J J J (QK J J J J (QJ J J J J (Qv J J J (Qj (hK _ _ (Qz (Q0 ?_)))))))))); clear hK K; refine QU [_] rfl (Qu J QQ) (by rw [e0, h3, show decide (r.fr.val ≠ 0) = decide ((r.fr.val : Int) ≠ 0) from decide_eq_decide.2 (by omega)]; rfl) J
set_option maxHeartbeats 4000000 in
theorem rValidR_ok (r : Rs) : Ok Tryz.prog 79 [rsC r] (boolC (okR r)) := by
  have e0 : okR r = (decide (ckE r = 0) && (decide (r.dst.val ≠ 0) && (!r.an || decide (r.fr.val ≠ 0)))) := rfl; have hC := rCheckR_ok r; generalize ckE r = e at e0 hC
  refine Ok.enter Tryz.func79 J _ Tryz.ntmps79 J ?_
  intro S w; refine Qw (Qx fun K hK => ?_); refine Xz 0 J J J J J J J (Qv J J J (Qj (hK _ _ (Qz (Qw ?_))))); clear hK K; refine Qx (fun K hK => ?_); refine Q6 (n := 17) J J J J J lRes J (QW gorCheckR hC J J J J (Qk ieql J J J J (Qq J J J (Q7 6 J (fun h => ?_) (fun h => ?_))))); rotate_left
  · refine Qy J J J (Qy J J J (Qy J J J (QK J J J J (Qq J J J (Qy J J J (Qy J J J (Qy J J J (Qy J J J (Qy J J J (Qy J J J (Qy J J J (Qy J J J (Qy J J J (QK J J J J (Qv J J J (Qj (hK _ _ (Qz (Q0 ?_))))))))))))))))))); clear hK K; refine QU [_] rfl (Qu J QQ) (by rw [e0, decide_eq_false h]; rfl) J
  rw [decide_eq_true h, Bool.true_and] at e0; refine QV J J J fS4 J (QY J J J J J lAddr J (Qk ineq J J J J (QJ J J J J (Qq J J J (Q7 11 J (fun h2 => ?_) (fun h2 => ?_)))))); rotate_left
  · refine Qy J J J (Qy J J J (Qy J J J (Qy J J J (Qy J J J (Qy J J J (Qy J J J (Qy J J J (Qy J J J (QK J J J J (Qv J J J (Qj (hK _ _ (Qz (Q0 ?_)))))))))))))); clear hK K; refine QU [_] rfl (Qu J QQ) (by rw [e0, decide_eq_false (show ¬ r.dst.val ≠ 0 by omega)]; rfl) J
  rw [decide_eq_true (show r.dst.val ≠ 0 by omega), Bool.true_and] at e0; refine QV J J J fS8 J (QY J J J J J lBool1 J (Qm J J J (Qq J J J (X3 15 J (fun h3 => ?_) (fun h3 => ?_)))))
  · have h3 : r.an = false := by simpa using h3
    refine Qy J J J (Qy J J J (Qy J J J (Qy J J J (QJ J J J J (QJ J J J J (Qv J J J (Qj (hK _ _ (Qz (Q0 ?_)))))))))); clear hK K; refine QU [_] rfl (Qu J QQ) (by rw [e0, h3]; rfl) J
  · have h3 : r.an = true := by simpa using h3
    refine QV J J J fS11 J (XK J J fN0 J (QY J J J J J lAddr J (Qk ineq J J J J (QK J J J J (QJ J J J J (Qv J J J (Qj (hK _ _ (Qz (Q0 ?_)))))))))); clear hK K; refine QU [_] rfl (Qu J QQ) (by rw [e0, h3, show decide (r.fr.val ≠ 0) = decide ((r.fr.val : Int) ≠ 0) from decide_eq_decide.2 (by omega)]; rfl) J
end Go.Proofs.YtlkdkbdgnjcopaaGreat
namespace Go.Own
open Go.RowKit
def partsL (L : AL) (n : Nat) : Nat → List (Nat × Operand) → List (List CT) → Prop
  | s, (i, x) :: ps, e :: es => i = s ∧ ev L x = some (.ct (.fr (aggT e))) ∧ e.length = n ∧ partsL L n (s + 1) ps es
  | _, [], [] => True
  | _, _, _ => False
theorem parts_fill {L : AL} {n : Nat} : ∀ (ps : List (Nat × Operand)) (es : List (List CT)) (s : Nat) (pre cs : List CT), partsL L n s ps es → pre.length = s * n → cs.length = ps.length * n → BParts L (fun i => some (i * n, n)) ps (pre ++ cs) (pre ++ es.flatten)
  | [], [], s, pre, cs, _, _, hc => by
    have : cs = [] := List.eq_nil_of_length_eq_zero (by simpa using hc)
    subst this
    exact .nil
  | (i, x) :: ps, e :: es, s, pre, cs, h, hp, hc => by
    obtain ⟨rfl, h2, h3, h4⟩ := h
    rw [List.length_cons, Nat.succ_mul] at hc
    have hs : spl (pre ++ cs) (i * n) e = (pre ++ e) ++ cs.drop n := by
      unfold spl; rw [← hp, List.take_left, h3, List.drop_append, List.drop_of_length_le (by omega), List.nil_append, show pre.length + n - pre.length = n by omega]
    refine .agg J h2 h3 (Nat.ble_eq_true_of_le (by rw [List.length_append, hp]; omega)) ?_
    rw [hs]; have := parts_fill ps es (i + 1) (pre ++ e) (cs.drop n) h4 (by rw [List.length_append, hp, h3, Nat.succ_mul]) (by rw [List.length_drop]; omega); rw [List.flatten_cons, ← List.append_assoc]; exact this
  | [], _ :: _, _, _, _, h, _, _ => h.elim
  | _ :: _, [], _, _, _, h, _, _ => h.elim
variable {X : Ctx} {L : AL} {B : BL} {ops : Array Oper} {K : Act → World → Prop} {r : Pl} {k : Kd}
  {x y z : Operand} {d : Nat} {t t2 t' : TypeId} {pos : String} {af : Array Edge} {g : Option (Nat × Bool)}
theorem YW {el len n : Nat} {ps : List (Nat × Operand)} {zv : Value} (es : List (List CT)) (hg : gd ops L g = some true) (hT : ArrT X.P t el len n zv) (hz : zv.cells.size = ps.length * n) (hb : partsL L n 0 ps es) (hn : Nat.blt d X.n = true)
    (h : Ops X ops r ((d, .ct (.fr (aggT es.flatten))) :: L) B K) : Ops X ops (.cons ⟨some d, .build t ps.toArray, t', pos, af, g⟩ k r) L B K :=
  ZU hg hT (by
    have := parts_fill ps es 0 [] (zv.cells.toList.map CT.ex) hb (by simp) (by rw [List.length_map, Array.length_toList]; exact hz)
    simpa using this) hn h
end Go.Own
namespace Go.Own
open Go.RowKit
def memN : List Nat → Nat → Bool
  | [], _ => false
  | a :: l, x => match Nat.beq a x with
    | true => true
    | false => memN l x
theorem memN_iff : ∀ {l : List Nat} {x : Nat}, memN l x = true ↔ x ∈ l
  | [], x => by simp [memN]
  | a :: l, x => by
    unfold memN
    split
    · rename_i h
      rw [Nat.eq_of_beq_eq_true h]; simp
    · rename_i h
      have : a ≠ x := fun e => by subst e; rw [Nat.beq_refl] at h; cases h
      rw [memN_iff, List.mem_cons]
      constructor
      · exact .inr
      · rintro (rfl | h)
        · exact absurd rfl this
        · exact h
def bnd (o : Oper) : List Nat := (o.after.toList.filter (Region.binds .any)).map (·.on)
theorem mem_bnd {o : Oper} {i : Nat} : i ∈ bnd o ↔ ∃ e ∈ o.after, Region.binds .any e = true ∧ e.on = i := by
  unfold bnd; simp only [List.mem_map, List.mem_filter, Array.mem_toList_iff]; constructor
  · rintro ⟨e, ⟨h1, h2⟩, h3⟩; exact ⟨e, h1, h2, h3⟩
  · rintro ⟨e, h1, h2, h3⟩; exact ⟨e, ⟨h1, h2⟩, h3⟩
def noneIn (A rem : List Nat) : Bool := A.all fun x => !memN rem x
def okT (A : List Nat) (j t : Nat) : List Oper → Nat → Bool
  | [], _ => true
  | o :: r, i => (match o.dst with
    | some d => match Nat.beq d t with
      | true => Nat.beq i j || memN A i
      | false => true
    | none => true) && okT A j t r (i + 1)
def s1F (ops : Array Oper) (l : List Oper) : List Oper → Nat → Bool
  | [], _ => true
  | o :: r, j => ((o.looksAt ops).all fun t => okT (bnd o) j t l 0) && s1F ops l r (j + 1)
def s2F : List Oper → Bool
  | [] => true
  | o :: r => (match o.dst with
    | some d => r.all fun q => match q.dst with
      | some e => !Nat.beq d e
      | none => true
    | none => true) && s2F r
def inB (n : Nat) : List Oper → Bool
  | [] => true
  | o :: r => (bnd o).all (fun x => Nat.blt x n) && inB n r
theorem okT_spec {A : List Nat} {j t : Nat} : ∀ {r : List Oper} {s : Nat}, okT A j t r s = true → ∀ i, i < r.length → (nth r i).dst = some t → s + i = j ∨ (s + i) ∈ A
  | [], _, _, i, h, _ => by simp at h
  | o :: r, s, h, 0, _, hd => by
    simp only [okT, Bool.and_eq_true] at h
    have h1 := h.1
    have hd : o.dst = some t := hd
    rw [hd] at h1
    simp only [Nat.beq_refl, Bool.or_eq_true] at h1
    rcases h1 with h1 | h1
    · exact .inl (Nat.eq_of_beq_eq_true h1)
    · exact .inr (memN_iff.1 h1)
  | o :: r, s, h, i + 1, hi, hd => by
    simp only [okT, Bool.and_eq_true] at h
    have := okT_spec h.2 i (by simpa using hi) hd
    rw [show s + (i + 1) = s + 1 + i by omega]; exact this
theorem s1F_spec {ops : Array Oper} {l : List Oper} : ∀ {r : List Oper} {s : Nat}, s1F ops l r s = true → ∀ j, j < r.length → ∀ t ∈ (nth r j).looksAt ops, ∀ i, i < l.length → (nth l i).dst = some t → i = s + j ∨ i ∈ bnd (nth r j)
  | [], _, _, j, h => by simp at h
  | o :: r, s, h, 0, _ => fun t ht i hi hd => by
    simp only [s1F, Bool.and_eq_true, List.all_eq_true] at h
    have := okT_spec (h.1 t ht) i hi hd
    rw [Nat.zero_add] at this
    rcases this with h | h
    · exact .inl h
    · exact .inr h
  | o :: r, s, h, j + 1, hj => fun t ht i hi hd => by
    simp only [s1F, Bool.and_eq_true] at h
    have := s1F_spec h.2 j (by simpa using hj) t ht i hi hd
    rw [show s + (j + 1) = s + 1 + j by omega]; exact this
theorem nth_mem : ∀ {l : List Oper} {i : Nat}, i < l.length → nth l i ∈ l
  | [], i, h => by simp at h
  | o :: l, 0, _ => List.mem_cons_self ..
  | o :: l, i + 1, h => List.mem_cons_of_mem _ (nth_mem (by simpa using h))
theorem s2F_spec : ∀ {l : List Oper}, s2F l = true → ∀ i j, i < l.length → j < l.length → i ≠ j → ∀ d, (nth l i).dst = some d → (nth l j).dst ≠ some d := by
  have key : ∀ {o : Oper} {r : List Oper} {d : Nat}, s2F (o :: r) = true → o.dst = some d → ∀ j, j < r.length → (nth r j).dst ≠ some d := fun {o r d} h hd j hj he => by
    simp only [s2F, Bool.and_eq_true, hd, List.all_eq_true] at h; have := h.1 _ (nth_mem hj); rw [he] at this; simp at this
  intro l
  induction l with
  | nil => intro _ i j hi; simp at hi
  | cons o r ih =>
    intro h i j hi hj hij d hd
    have h2 : s2F r = true := by simp only [s2F, Bool.and_eq_true] at h; exact h.2
    cases i with
    | zero =>
      cases j with
      | zero => exact absurd J hij
      | succ j => exact key h hd j (by simpa using hj)
    | succ i =>
      cases j with
      | zero =>
        intro he; have he : o.dst = some d := he; exact key h he i (by simpa using hi) hd
      | succ j => exact ih h2 i j (by simpa using hi) (by simpa using hj) (by omega) d hd
theorem inB_spec {n : Nat} : ∀ {l : List Oper}, inB n l = true → ∀ i, i < l.length → ∀ x ∈ bnd (nth l i), x < n
  | [], _, i, h => by simp at h
  | o :: r, h, 0, _ => fun x hx => by
    simp only [inB, Bool.and_eq_true, List.all_eq_true] at h
    exact Nat.blt_eq ▸ h.1 x hx
  | o :: r, h, i + 1, hi => inB_spec (by simp only [inB, Bool.and_eq_true] at h; exact h.2) i (by simpa using hi)
def dropN (rem : List Nat) (i : Nat) : List Nat := rem.filter fun x => !Nat.beq x i
def readyR (l : List Oper) (rem : List Nat) : List Nat := rem.filter fun r => noneIn (bnd (nth l r)) rem
def eqN : List Nat → List Nat → Bool
  | [], [] => true
  | a :: l, b :: m => Nat.beq a b && eqN l m
  | _, _ => false
theorem eqN_eq : ∀ {l m : List Nat}, eqN l m = true → l = m
  | [], [], _ => rfl
  | a :: l, b :: m, h => by
    simp only [eqN, Bool.and_eq_true] at h
    rw [Nat.eq_of_beq_eq_true h.1, eqN_eq h.2]
  | [], _ :: _, h => by cases h
  | _ :: _, [], h => by cases h
def chkF (l : List Oper) (N : Nat) : Od → List Nat → Bool
  | .done, rem => (readyR l rem).isEmpty
  | .p i r, rem => memN rem i && noneIn (bnd (nth l i)) rem && chkF l N r (dropN rem i)
  | .f i r, rem => memN rem i && noneIn (bnd (nth l i)) rem && waitsOn l.toArray N i && chkF l N r (dropN rem i)
  | .m i r, rem => eqN (readyR l rem) [i] && Nat.blt i N && chkF l N r (dropN rem i)
  | .a i r, rem => eqN (readyR l rem) [i] && !Nat.blt i N && chkF l N r (dropN rem i)
  | .fork i r j s, rem => eqN (readyR l rem) [i, j] && Nat.blt i N && Nat.blt j N && chkF l N r (dropN rem i) && chkF l N s (dropN rem j)
def statF (l : List Oper) : Bool := s1F l.toArray l l 0 && s2F l && inB l.length l
structure Rel (l : List Oper) (rem : List Nat) (listed : Array Bool) : Prop where
  size : listed.size = l.length
  rem : rem = (List.range l.length).filter fun i => !listed.getD i true
theorem Rel.mem {l : List Oper} {rem : List Nat} {listed : Array Bool} (h : Rel l rem listed) {i : Nat} : i ∈ rem ↔ i < l.length ∧ listed.getD i true = false := by
  rw [h.rem, List.mem_filter, List.mem_range]; simp
theorem Rel.drop {l : List Oper} {rem : List Nat} {listed : Array Bool} (h : Rel l rem listed) (i : Nat) : Rel l (dropN rem i) (listed.setIfInBounds i true) := by
  refine ⟨by rw [Array.size_setIfInBounds]; exact h.size, ?_⟩; unfold dropN; rw [h.rem, List.filter_filter]
  apply List.filter_congr
  intro x hx; have hx := List.mem_range.1 hx; by_cases e : x = i
  · subst e
    have : (listed.setIfInBounds x true).getD x true = true := by
      rw [Array.getD_eq_getD_getElem?, Array.getElem?_setIfInBounds_self_of_lt (by rw [h.size]; exact hx)]; rfl
    rw [this, Nat.beq_refl]; rfl
  · rw [getD_set_ne true (Ne.symm e)]
    have : Nat.beq x i = false := by
      cases e2 : Nat.beq x i with
      | false => rfl
      | true => exact absurd (Nat.eq_of_beq_eq_true e2) e
    rw [this]; simp
theorem listed_false {l : List Oper} {rem : List Nat} {listed : Array Bool} (h : Rel l rem listed) {x : Nat} (hx : x < l.length) : listed.getD x false = true ↔ x ∉ rem := by
  have hs : x < listed.size := by rw [h.size]; exact hx
  rw [h.mem]
  have e1 : listed.getD x false = listed[x] := by simp [Array.getD, hs]
  have e2 : listed.getD x true = listed[x] := by simp [Array.getD, hs]
  rw [e1, e2]
  cases listed[x] <;> simp [hx]
theorem none_spec {l : List Oper} {rem : List Nat} {listed : Array Bool} (h : Rel l rem listed) (hB : inB l.length l = true) {i : Nat} (hi : i < l.length) : noneIn (bnd (nth l i)) rem = true ↔ ∀ e ∈ (nth l i).after, Region.binds .any e = true → listed.getD e.on false = true := by
  unfold noneIn; rw [List.all_eq_true]; constructor
  · intro h1 e he hb; have hm : e.on ∈ bnd (nth l i) := mem_bnd.2 ⟨e, he, hb, rfl⟩; rw [listed_false h (inB_spec hB i hi _ hm)]; have := h1 _ hm; intro h2; rw [memN_iff.2 h2] at this; cases this
  · intro h1 x hx; obtain ⟨e, he, hb, rfl⟩ := mem_bnd.1 hx; have := (listed_false h (inB_spec hB i hi _ hx)).1 (h1 e he hb)
    cases e2 : memN rem e.on with
    | false => rfl
    | true => exact absurd (memN_iff.1 e2) this
theorem ready_eq {l : List Oper} {rem : List Nat} {listed : Array Bool} (h : Rel l rem listed) (hB : inB l.length l = true) : Region.ready .any l.toArray listed = readyR l rem := by
  unfold Region.ready readyR
  conv => rhs; arg 2; rw [h.rem]
  rw [List.filter_filter, List.size_toArray]
  apply List.filter_congr
  intro x hx; have hx := List.mem_range.1 hx; have hn := nth_eq hx; rw [hn]; have := none_spec h hB hx; simp only [Option.map_some, Option.getD_some]; rw [Bool.and_comm]
  congr 1
  apply Bool.eq_iff_iff.2
  rw [this, Array.all_eq_true_iff_forall_mem]; constructor
  · intro h1 e he hb; have := h1 e he; rw [hb] at this; simpa using this
  · intro h1 e he
    cases hb : Region.binds .any e with
    | false => rfl
    | true => simpa using h1 e he hb
theorem free_of {l : List Oper} {rem : List Nat} {listed : Array Bool} (h : Rel l rem listed) (hs : statF l = true) {i : Nat} (hi : i ∈ rem) (hn : noneIn (bnd (nth l i)) rem = true) : Region.free .any l.toArray listed i = true := by
  unfold statF at hs; simp only [Bool.and_eq_true] at hs; obtain ⟨⟨h1, h2⟩, hB⟩ := hs; have hil := (h.mem.1 hi).1; unfold Region.free; rw [nth_eq hil]; simp only [List.all_eq_true, List.mem_range, List.size_toArray]; intro j hj; rw [nth_eq hj]; by_cases hji : j = i
  · subst hji; simp
  by_cases hl : listed.getD j true = true
  · rw [hl]; simp
  have hjr : j ∈ rem := h.mem.2 ⟨hj, by simpa using hl⟩; by_cases ha : i ∈ bnd (nth l j)
  · obtain ⟨e, he, hb, heq⟩ := mem_bnd.1 ha; have : ((nth l j).after.any fun e => Region.binds .any e && e.on == i) = true := Array.any_eq_true'.2 ⟨e, he, by rw [hb, heq]; simp⟩; simp only [this, Bool.true_or, Bool.or_true]
  · have hap : (nth l i).apart l.toArray (nth l j) = true := by
      unfold Oper.apart; rw [Bool.and_eq_true]; constructor
      · cases hd : (nth l i).dst with
        | none => rfl
        | some d =>
          have c1 : ¬ d ∈ (nth l j).looksAt l.toArray := fun hm => by
            rcases s1F_spec h1 j hj d hm i hil hd with h3 | h3
            · exact hji (by omega)
            · exact ha h3
          have c2 := s2F_spec h2 i j hil hj (Ne.symm hji) d hd; simp only [Bool.and_eq_true, Bool.not_eq_true', bne_iff_ne, ne_eq]; exact ⟨by simpa using c1, c2⟩
      · cases hd : (nth l j).dst with
        | none => rfl
        | some d =>
          have c1 : ¬ d ∈ (nth l i).looksAt l.toArray := fun hm => by
            rcases s1F_spec h1 i hil d hm j hj hd with h3 | h3
            · exact hji (by omega)
            · unfold noneIn at hn; rw [List.all_eq_true] at hn; have := hn j h3; rw [memN_iff.2 hjr] at this; cases this
          simpa using c1
    simp only [hap, Bool.or_true]
theorem chkF_ok {l : List Oper} {N : Nat} (hs : statF l = true) : ∀ (ord : Od) (rem : List Nat) (listed : Array Bool), Rel l rem listed → chkF l N ord rem = true → chk l.toArray N ord rem.length listed = true := by
  have hB : inB l.length l = true := by unfold statF at hs; simp only [Bool.and_eq_true] at hs; exact hs.2
  have hdrop : ∀ {rem : List Nat} {listed : Array Bool} {i : Nat}, Rel l rem listed → i ∈ rem → rem.length = (dropN rem i).length + 1 := fun {rem listed i} h hi => by
    have hnd : rem.Nodup := by rw [h.rem]; exact List.nodup_range.filter _
    have e : dropN rem i = rem.erase i := by
      rw [hnd.erase_eq_filter]; unfold dropN
      apply List.filter_congr
      intro x _
      cases e2 : Nat.beq x i with
      | true => rw [Nat.eq_of_beq_eq_true e2]; simp
      | false =>
        have : x ≠ i := fun e => by subst e; rw [Nat.beq_refl] at e2; cases e2
        simp [this]
    rw [e, List.length_erase_of_mem hi]; have := List.length_pos_of_mem hi; omega
  have hmem : ∀ {rem : List Nat} {i : Nat}, i ∈ readyR l rem → i ∈ rem := fun h => (List.mem_filter.1 h).1
  intro ord
  induction ord with
  | done =>
    intro rem listed h hc; simp only [chkF] at hc
    cases hl : rem.length <;> (simp only [chk]; rw [ready_eq h hB]; exact hc)
  | p i r ih =>
    intro rem listed h hc; simp only [chkF, Bool.and_eq_true] at hc; obtain ⟨⟨c1, c2⟩, c3⟩ := hc; have hi := memN_iff.1 c1; rw [hdrop h hi]; simp only [chk, Bool.and_eq_true]; refine ⟨⟨?_, free_of h hs hi c2⟩, ih _ _ (h.drop i) c3⟩; rw [ready_eq h hB, List.contains_iff_mem]; exact List.mem_filter.2 ⟨hi, c2⟩
  | f i r ih =>
    intro rem listed h hc; simp only [chkF, Bool.and_eq_true] at hc; obtain ⟨⟨⟨c1, c2⟩, cw⟩, c3⟩ := hc; have hi := memN_iff.1 c1; rw [hdrop h hi]; simp only [chk, Bool.and_eq_true]; refine ⟨⟨⟨?_, free_of h hs hi c2⟩, cw⟩, ih _ _ (h.drop i) c3⟩; rw [ready_eq h hB, List.contains_iff_mem]; exact List.mem_filter.2 ⟨hi, c2⟩
  | m i r ih =>
    intro rem listed h hc; simp only [chkF, Bool.and_eq_true] at hc; obtain ⟨⟨c1, c2⟩, c3⟩ := hc; have e := eqN_eq c1; have hi : i ∈ rem := hmem (by rw [e]; simp); rw [hdrop h hi]; simp only [chk, Bool.and_eq_true]; exact ⟨⟨by rw [ready_eq h hB, e]; simp, c2⟩, ih _ _ (h.drop i) c3⟩
  | a i r ih =>
    intro rem listed h hc; simp only [chkF, Bool.and_eq_true] at hc; obtain ⟨⟨c1, c2⟩, c3⟩ := hc; have e := eqN_eq c1; have hi : i ∈ rem := hmem (by rw [e]; simp); rw [hdrop h hi]; simp only [chk, Bool.and_eq_true]; exact ⟨⟨by rw [ready_eq h hB, e]; simp, c2⟩, ih _ _ (h.drop i) c3⟩
  | fork i r j s ih1 ih2 =>
    intro rem listed h hc; simp only [chkF, Bool.and_eq_true] at hc; obtain ⟨⟨⟨⟨c1, c2⟩, c3⟩, c4⟩, c5⟩ := hc; have e := eqN_eq c1; have hi : i ∈ rem := hmem (by rw [e]; simp); have hj : j ∈ rem := hmem (by rw [e]; simp); have hd := hdrop h hi; have hd2 := hdrop h hj; rw [hd]; simp only [chk, Bool.and_eq_true]; refine ⟨⟨⟨⟨by rw [ready_eq h hB, e]; simp, c2⟩, c3⟩, ih1 _ _ (h.drop i) c4⟩, ?_⟩; rw [show (dropN rem i).length = (dropN rem j).length by omega]; exact ih2 _ _ (h.drop j) c5
theorem Rel.start (l : List Oper) : Rel l (List.range l.length) (Array.replicate l.length false) := by
  refine ⟨by simp, ?_⟩; rw [List.filter_eq_self.2]; intro i hi; have hi := List.mem_range.1 hi; simp [Array.getD, hi]
variable {X : Ctx} {L : AL} {B : BL}
theorem St.drawF {id : Nat} {l : List Oper} {Q : Exit → Act → World → Prop} (hm : X.P.follows .mixedOrders = true) (N : Nat) (ord : Od)
    (hc : (Region.noSelect l.toArray && (statF l && chkF l N ord (List.range l.length))) = true)
    (h : ∀ K, (∀ L' B', Fin X L' B' (fun a w => Q .normal a w) → Fin X L' B' K) → Ops X l.toArray (pick l ord) L B K) : St X L B (.region id l.toArray true) Q := by
  simp only [Bool.and_eq_true] at hc; obtain ⟨h1, h2, h3⟩ := hc; have h4 := chkF_ok h2 ord _ _ (Rel.start l) h3; rw [List.length_range] at h4; exact Xw hm N ord (by rw [h1, h4]; rfl) h
end Go.Own
namespace Go.Proofs.YtlkdkbdgnjcopaaGreat
open Go.Own
attribute [local irreducible] St Ops Go.Own.Fin Ok OkB OkN OkT OkL OkF
def b01 (b : Bool) : Int := if b then 1 else 0
def rsO6 (x : Rs) : List Int := [x.tm, x.va, x.ru, x.nu, IntKind.i64.wrap (x.dst.val : Int), x.pr, x.fl, x.tt, b01 x.an, b01 x.db, x.bk, IntKind.i64.wrap (x.fr.val : Int), x.ki, x.co, x.le, x.id]
def rsO (x : Rs) : List Int := [x.tm, x.va, x.ru, x.nu, IntKind.i64.wrap (x.dst.val : Int), x.pr, x.fl, x.tt, b01 x.an, b01 x.db, x.bk, IntKind.i64.wrap (x.fr.val : Int), x.ki, x.co, x.le, x.id, x.qu]
def cmpR (x y : Rs) : Int := cmpL (rsO x) (rsO y)
theorem b01_inj {a b : Bool} (h : b01 a = b01 b) : a = b := by cases a <;> cases b <;> first | rfl | cases h
theorem rsO_inj {x y : Rs} (h : rsO x = rsO y) : x = y := by
  obtain ⟨a1, a2, a3, a4, a5, a6, a7, a8, a9, a10, a11, a12, a13, a14, a15, a16, a17⟩ := x; obtain ⟨c1, c2, c3, c4, c5, c6, c7, c8, c9, c10, c11, c12, c13, c14, c15, c16, c17⟩ := y; simp only [rsO, wrap_fin, List.cons.injEq, and_true, Int.ofNat_inj, Fin.val_inj] at h; obtain ⟨h1, h2, h3, h4, h5, h6, h7, h8, h9, h10, h11, h12, h13, h14, h15, h16, h17⟩ := h; subst h1 h2 h3 h4 h5 h6 h7 h8 h11 h12 h13 h14 h15 h16 h17; rw [b01_inj h9, b01_inj h10]
theorem aPairs17 : ArrT Tryz.prog 180 173 17 2 (.agg #[.int .i64 0, .int .i64 0, .int .i64 0, .int .i64 0, .int .i64 0, .int .i64 0, .int .i64 0, .int .i64 0, .int .i64 0, .int .i64 0, .int .i64 0, .int .i64 0, .int .i64 0, .int .i64 0, .int .i64 0, .int .i64 0, .int .i64 0, .int .i64 0, .int .i64 0, .int .i64 0, .int .i64 0, .int .i64 0, .int .i64 0, .int .i64 0, .int .i64 0, .int .i64 0, .int .i64 0, .int .i64 0, .int .i64 0, .int .i64 0, .int .i64 0, .int .i64 0, .int .i64 0, .int .i64 0]) := ⟨Tryz.underlying180, by kernel_rfl, by kernel_rfl⟩
theorem aPairs16 : ArrT Tryz.prog 198 173 16 2 (.agg #[.int .i64 0, .int .i64 0, .int .i64 0, .int .i64 0, .int .i64 0, .int .i64 0, .int .i64 0, .int .i64 0, .int .i64 0, .int .i64 0, .int .i64 0, .int .i64 0, .int .i64 0, .int .i64 0, .int .i64 0, .int .i64 0, .int .i64 0, .int .i64 0, .int .i64 0, .int .i64 0, .int .i64 0, .int .i64 0, .int .i64 0, .int .i64 0, .int .i64 0, .int .i64 0, .int .i64 0, .int .i64 0, .int .i64 0, .int .i64 0, .int .i64 0, .int .i64 0]) := ⟨Tryz.underlying198, by kernel_rfl, by kernel_rfl⟩
theorem szPairs17 : (Tryz.prog.info? 180).map (·.size) = some 34 := by kernel_rfl
theorem zvPairs17 : (Tryz.prog.info? 180).map (·.zero) = some (some (.agg #[.int .i64 0, .int .i64 0, .int .i64 0, .int .i64 0, .int .i64 0, .int .i64 0, .int .i64 0, .int .i64 0, .int .i64 0, .int .i64 0, .int .i64 0, .int .i64 0, .int .i64 0, .int .i64 0, .int .i64 0, .int .i64 0, .int .i64 0, .int .i64 0, .int .i64 0, .int .i64 0, .int .i64 0, .int .i64 0, .int .i64 0, .int .i64 0, .int .i64 0, .int .i64 0, .int .i64 0, .int .i64 0, .int .i64 0, .int .i64 0, .int .i64 0, .int .i64 0, .int .i64 0, .int .i64 0])) := by kernel_rfl
theorem lPairs17 : LdN Tryz.prog 180 34 := LdN.of _ Tryz.underlying180 rfl (by kernel_rfl)
theorem Ze : InGo Tryz.prog 127 := InGo.of Tryz.func127 rfl (by decide)
theorem gobit : InGo Tryz.prog 142 := InGo.of Tryz.func142 rfl (by decide)
theorem gorless : InGo Tryz.prog 120 := InGo.of Tryz.func120 rfl (by decide)
theorem ZW (b : Bool) : Ok Tryz.prog 127 [boolC b] (intC (b01 b)) := by
  refine Ok.enter Tryz.func127 J _ Tryz.ntmps127 J ?_
  intro S w
  cases b with
  | true =>
    refine Qw (Qx fun K hK => ?_); refine Qv J J J (Qj (hK _ _ (Qz (Qw (Qw ?_))))); clear hK K; refine Qx (fun K hK => ?_); refine Qq J J J (Qj (hK _ _ (Qz (Qp J (Qw ?_))))); clear hK K; refine Qx (fun K hK => ?_); refine Qv J J J (Qj (hK _ _ (Qz (Q0 (QZ ?_))))); clear hK K; refine QU [_] rfl (Qu J QQ) J J
  | false =>
    refine Qw (Qx fun K hK => ?_); refine Qv J J J (Qj (hK _ _ (Qz (Qw (Qw ?_))))); clear hK K; refine Qx (fun K hK => ?_); refine Qq J J J (Qj (hK _ _ (Qz (Xv J (Q1 (Qz (Qw ?_))))))); clear hK K; refine Qx (fun K hK => ?_); refine Qv J J J (Qj (hK _ _ (Qz (Q0 ?_)))); clear hK K; refine QU [_] rfl (Qu J QQ) J J
theorem bit_ok (b : Bool) : Ok Tryz.prog 142 [boolC b] (intC (b01 b)) := by
  refine Ok.enter Tryz.func142 J _ Tryz.ntmps142 J ?_
  intro S w
  cases b with
  | true =>
    refine Qw (Qx fun K hK => ?_); refine Qv J J J (Qj (hK _ _ (Qz (Qw (Qw ?_))))); clear hK K; refine Qx (fun K hK => ?_); refine Qq J J J (Qj (hK _ _ (Qz (Qp J (Qw ?_))))); clear hK K; refine Qx (fun K hK => ?_); refine Qv J J J (Qj (hK _ _ (Qz (Q0 (QZ ?_))))); clear hK K; refine QU [_] rfl (Qu J QQ) J J
  | false =>
    refine Qw (Qx fun K hK => ?_); refine Qv J J J (Qj (hK _ _ (Qz (Qw (Qw ?_))))); clear hK K; refine Qx (fun K hK => ?_); refine Qq J J J (Qj (hK _ _ (Qz (Xv J (Q1 (Qz (Qw ?_))))))); clear hK K; refine Qx (fun K hK => ?_); refine Qv J J J (Qj (hK _ _ (Qz (Q0 ?_)))); clear hK K; refine QU [_] rfl (Qu J QQ) J J
theorem rless_ok (p q : Int) : Ok Tryz.prog 120 [intC p, intC q] (intC (cmp3 p q)) := by
  refine Ok.enter Tryz.func120 J _ Tryz.ntmps120 J ?_
  intro S w; refine Qw (Qx fun K hK => ?_); refine Qv J J J (Qj (hK _ _ (Qz (Qw (Q5 (Qw ?_)))))); clear hK K; refine Qx (fun K hK => ?_); refine Qq J J J (Qq J J J (Qk ilss J J J J (Qv J J J (Qj (hK _ _ (Qz ?_)))))); clear hK K; refine Q2 J (fun h => ?_) (fun h => ?_)
  · refine Qw (Qx fun K hK => ?_); refine Qv J J J (Qj (hK _ _ (Qz (Q0 (Q3 (QZ ?_)))))); clear hK K; refine QU [_] rfl (Qu J QQ) (by rw [Y4, if_pos h]; rfl) J
  · refine Qw (Qx fun K hK => ?_); refine Qq J J J (Qq J J J (Qk igtr J J J J (Qv J J J (Qj (hK _ _ (Qz ?_)))))); clear hK K; refine Q2 J (fun h2 => ?_) (fun h2 => ?_)
    · refine Qw (Qx fun K hK => ?_); refine Qv J J J (Qj (hK _ _ (Qz (Q0 (Q3 (QZ ?_)))))); clear hK K; refine QU [_] rfl (Qu J QQ) (by rw [Y4, if_neg h, if_pos h2]; rfl) J
    · refine Q1 (Qz (Qw (Qx fun K hK => ?_))); refine Qv J J J (Qj (hK _ _ (Qz (Q0 ?_)))); clear hK K; refine QU [_] rfl (Qu J QQ) (by rw [Y4, if_neg h, if_neg h2]; rfl) J
theorem goCmpR : InGo Tryz.prog 89 := InGo.of Tryz.func89 rfl (by decide)
theorem gorCmpR : InGo Tryz.prog 110 := InGo.of Tryz.func110 rfl (by decide)
set_option maxHeartbeats 8000000 in
theorem cmpR_ok (x y : Rs) : Ok Tryz.prog 89 [rsC x, rsC y] (intC (cmpR x y)) := by
  refine Ok.enter Tryz.func89 J _ Tryz.ntmps89 J ?_
  intro S w; refine Qw (Qx fun K hK => ?_); refine Xz 0 J J J J J J J (Xz 1 J J J J J J J (Qv J J J (Qj (hK _ _ (Qz (Qw ?_)))))); clear hK K; refine St.drawF mixed 107 (.p 0 (.p 2 (.p 5 (.p 7 (.p 10 (.p 12 (.p 15 (.p 17 (.p 20 (.p 23 (.p 27 (.p 29 (.p 32 (.p 34 (.p 37 (.p 39 (.p 42 (.p 45 (.p 49 (.p 52 (.p 56 (.p 58 (.p 61 (.p 62 (.p 65 (.p 66 (.p 70 (.p 71 (.p 73 (.p 74 (.p 77 (.p 78 (.p 80 (.p 81 (.p 84 (.p 85 (.p 87 (.p 88 (.p 91 (.p 92 (.p 94 (.p 95 (.p 98 (.p 99 (.p 101 (.p 102 (.f 1 (.f 3 (.p 4 (.f 6 (.f 8 (.p 9 (.f 11 (.f 13 (.p 14 (.f 16 (.f 18 (.p 19 (.f 21 (.p 22 (.f 24 (.p 25 (.p 26 (.f 28 (.f 30 (.p 31 (.f 33 (.f 35 (.p 36 (.f 38 (.f 40 (.p 41 (.f 43 (.f 46 (.f 50 (.f 53 (.f 57 (.f 59 (.p 60 (.f 63 (.p 64 (.f 67 (.p 68 (.p 69 (.f 72 (.f 75 (.p 76 (.f 79 (.f 82 (.p 83 (.f 86 (.f 89 (.p 90 (.f 93 (.f 96 (.p 97 (.f 100 (.f 103 (.p 104 (.fork 44 (.fork 47 (.p 48 (.fork 51 (.fork 54 (.p 55 (.p 105 (.m 106 (.a 107 .done)))) 106 (.m 54 (.p 55 (.p 105 (.a 107 .done))))) 106 (.m 51 (.m 54 (.p 55 (.p 105 (.a 107 .done))))))) 106 (.m 47 (.p 48 (.m 51 (.m 54 (.p 55 (.p 105 (.a 107 .done)))))))) 106 (.m 44 (.m 47 (.p 48 (.m 51 (.m 54 (.p 55 (.p 105 (.a 107 .done)))))))))))))))))))))))))))))))))))))))))))))))))))))))))))))))))))))))))))))))))))))))))))))))))))))))))))) (by kernel_rfl) (fun K hK => ?_)
  refine (fun (cont : Go.Own.Fin _ [(5, .own 2)] [(2, .box 180 (prs (rsO x) (rsO y)).flatten), (1, .box 35 (rsCs y)), (0, .box 35 (rsCs x))] K) => ?_) (hK _ _ ?_)
  · clear hK
    refine Ops.batchP rsT_ok 99 (.fork 44 (.fork 47 (.p 48 (.fork 51 (.fork 54 (.p 55 (.p 105 (.m 106 (.a 107 .done)))) 106 (.m 54 (.p 55 (.p 105 (.a 107 .done))))) 106 (.m 51 (.m 54 (.p 55 (.p 105 (.a 107 .done))))))) 106 (.m 47 (.p 48 (.m 51 (.m 54 (.p 55 (.p 105 (.a 107 .done)))))))) 106 (.m 44 (.m 47 (.p 48 (.m 51 (.m 54 (.p 55 (.p 105 (.a 107 .done))))))))) ((113, .ct (.fr (aggT (pr (x.qu) (y.qu))))) :: (112, .ct (intC y.qu)) :: (109, .ct (intC x.qu)) :: (106, .ct (.fr (aggT (pr (x.id) (y.id))))) :: (105, .ct (intC y.id)) :: (102, .ct (intC x.id)) :: (99, .ct (.fr (aggT (pr (x.le) (y.le))))) :: (98, .ct (intC y.le)) :: (95, .ct (intC x.le)) :: (92, .ct (.fr (aggT (pr (x.co) (y.co))))) :: (91, .ct (intC y.co)) :: (88, .ct (intC x.co)) :: (85, .ct (.fr (aggT (pr (x.ki) (y.ki))))) :: (84, .ct (intC y.ki)) :: (81, .ct (intC x.ki)) :: (78, .ct (.fr (aggT (pr (IntKind.i64.wrap (x.fr.val : Int)) (IntKind.i64.wrap (y.fr.val : Int)))))) :: (77, .ct (intC (IntKind.i64.wrap (y.fr.val : Int)))) :: (76, .ct (adrC y.fr.val)) :: (73, .ct (intC (IntKind.i64.wrap (x.fr.val : Int)))) :: (72, .ct (adrC x.fr.val)) :: (69, .ct (.fr (aggT (pr (x.bk) (y.bk))))) :: (68, .ct (intC y.bk)) :: (66, .ct (intC x.bk)) :: (62, .ct (boolC y.db)) :: (59, .ct (boolC x.db)) :: (55, .ct (boolC y.an)) :: (52, .ct (boolC x.an)) :: (50, .ct (.fr (aggT (pr (x.tt) (y.tt))))) :: (49, .ct (intC y.tt)) :: (47, .ct (intC x.tt)) :: (45, .ct (.fr (aggT (pr (x.fl) (y.fl))))) :: (44, .ct (intC y.fl)) :: (42, .ct (intC x.fl)) :: (40, .ct (.fr (aggT (pr (x.pr) (y.pr))))) :: (39, .ct (intC y.pr)) :: (37, .ct (intC x.pr)) :: (35, .ct (.fr (aggT (pr (IntKind.i64.wrap (x.dst.val : Int)) (IntKind.i64.wrap (y.dst.val : Int)))))) :: (34, .ct (intC (IntKind.i64.wrap (y.dst.val : Int)))) :: (33, .ct (adrC y.dst.val)) :: (31, .ct (intC (IntKind.i64.wrap (x.dst.val : Int)))) :: (30, .ct (adrC x.dst.val)) :: (28, .ct (.fr (aggT (pr (x.nu) (y.nu))))) :: (27, .ct (intC y.nu)) :: (25, .ct (intC x.nu)) :: (23, .ct (.fr (aggT (pr (x.ru) (y.ru))))) :: (22, .ct (intC y.ru)) :: (20, .ct (intC x.ru)) :: (18, .ct (.fr (aggT (pr (x.va) (y.va))))) :: (17, .ct (intC y.va)) :: (15, .ct (intC x.va)) :: (13, .ct (.fr (aggT (pr (x.tm) (y.tm))))) :: (12, .ct (intC y.tm)) :: (10, .ct (intC x.tm)) :: (111, .loc 1 16) :: (110, .loc 1 11) :: (108, .loc 0 16) :: (107, .loc 0 11) :: (104, .loc 1 15) :: (103, .loc 1 11) :: (101, .loc 0 15) :: (100, .loc 0 11) :: (97, .loc 1 14) :: (96, .loc 1 11) :: (94, .loc 0 14) :: (93, .loc 0 11) :: (90, .loc 1 13) :: (89, .loc 1 11) :: (87, .loc 0 13) :: (86, .loc 0 11) :: (83, .loc 1 12) :: (82, .loc 1 11) :: (80, .loc 0 12) :: (79, .loc 0 11) :: (75, .loc 1 11) :: (74, .loc 1 11) :: (71, .loc 0 11) :: (70, .loc 0 11) :: (67, .loc 1 10) :: (65, .loc 0 10) :: (61, .loc 1 9) :: (58, .loc 0 9) :: (54, .loc 1 8) :: (51, .loc 0 8) :: (48, .loc 1 7) :: (46, .loc 0 7) :: (43, .loc 1 6) :: (41, .loc 0 6) :: (38, .loc 1 5) :: (36, .loc 0 5) :: (32, .loc 1 4) :: (29, .loc 0 4) :: (26, .loc 1 2) :: (24, .loc 0 2) :: (21, .loc 1 1) :: (19, .loc 0 1) :: (16, .loc 1 0) :: (14, .loc 0 0) :: (11, .loc 1 3) :: (9, .loc 0 3) :: (4, .ct (intC 0)) :: (3, .own 1) :: (2, .own 0) :: argL 0 [rsC x, rsC y]) (by kernel_rfl) [(2, .own 0), (3, .own 1), (13, .ct (.fr (aggT (pr (x.tm) (y.tm))))), (18, .ct (.fr (aggT (pr (x.va) (y.va))))), (23, .ct (.fr (aggT (pr (x.ru) (y.ru))))), (28, .ct (.fr (aggT (pr (x.nu) (y.nu))))), (35, .ct (.fr (aggT (pr (IntKind.i64.wrap (x.dst.val : Int)) (IntKind.i64.wrap (y.dst.val : Int)))))), (40, .ct (.fr (aggT (pr (x.pr) (y.pr))))), (45, .ct (.fr (aggT (pr (x.fl) (y.fl))))), (50, .ct (.fr (aggT (pr (x.tt) (y.tt))))), (69, .ct (.fr (aggT (pr (x.bk) (y.bk))))), (78, .ct (.fr (aggT (pr (IntKind.i64.wrap (x.fr.val : Int)) (IntKind.i64.wrap (y.fr.val : Int)))))), (85, .ct (.fr (aggT (pr (x.ki) (y.ki))))), (92, .ct (.fr (aggT (pr (x.co) (y.co))))), (99, .ct (.fr (aggT (pr (x.le) (y.le))))), (106, .ct (.fr (aggT (pr (x.id) (y.id))))), (113, .ct (.fr (aggT (pr (x.qu) (y.qu))))), (52, .ct (boolC x.an)), (55, .ct (boolC y.an)), (59, .ct (boolC x.db)), (62, .ct (boolC y.db))] ⟨rfl, rfl, rfl, rfl, rfl, rfl, rfl, rfl, rfl, rfl, rfl, rfl, rfl, rfl, rfl, rfl, rfl, rfl, rfl, rfl, rfl, trivial⟩ ?_
    refine Y1 ?_ ?_
    · refine QW Ze (ZW x.an) J J J J (Y1 ?_ ?_)
      · refine QW Ze (ZW y.an) J J J J (ZU (n := 1) (cs := pr (b01 x.an) (b01 y.an)) J aPair (.one J J J J (.one J J J J .nil)) J (Y1 ?_ ?_))
        · refine QW Ze (ZW x.db) J J J J (Y1 ?_ ?_)
          · refine QW Ze (ZW y.db) J J J J (ZU (n := 1) (cs := pr (b01 x.db) (b01 y.db)) J aPair (.one J J J J (.one J J J J .nil)) J (YW (n := 2) (prs (rsO x) (rsO y)) J aPairs17 J ⟨rfl, rfl, rfl, rfl, rfl, rfl, rfl, rfl, rfl, rfl, rfl, rfl, rfl, rfl, rfl, rfl, rfl, rfl, rfl, rfl, rfl, rfl, rfl, rfl, rfl, rfl, rfl, rfl, rfl, rfl, rfl, rfl, rfl, rfl, rfl, rfl, rfl, rfl, rfl, rfl, rfl, rfl, rfl, rfl, rfl, rfl, rfl, rfl, rfl, rfl, rfl, trivial⟩ rfl (Qg 2 J J zvPairs17 J J J (Qa 34 J J J J J szPairs17 J J ?_)))); exact Qj (Fin.keep [(5, .own 2)] ⟨rfl, trivial⟩ cont)
          · refine Qg 2 J J zvPairs17 J J J (QW Ze (ZW y.db) J J J J (ZU (n := 1) (cs := pr (b01 x.db) (b01 y.db)) J aPair (.one J J J J (.one J J J J .nil)) J (YW (n := 2) (prs (rsO x) (rsO y)) J aPairs17 J ⟨rfl, rfl, rfl, rfl, rfl, rfl, rfl, rfl, rfl, rfl, rfl, rfl, rfl, rfl, rfl, rfl, rfl, rfl, rfl, rfl, rfl, rfl, rfl, rfl, rfl, rfl, rfl, rfl, rfl, rfl, rfl, rfl, rfl, rfl, rfl, rfl, rfl, rfl, rfl, rfl, rfl, rfl, rfl, rfl, rfl, rfl, rfl, rfl, rfl, rfl, rfl, trivial⟩ rfl (Qa 34 J J J J J szPairs17 J J ?_)))); exact Qj (Fin.keep [(5, .own 2)] ⟨rfl, trivial⟩ cont)
        · refine Qg 2 J J zvPairs17 J J J (QW Ze (ZW x.db) J J J J (QW Ze (ZW y.db) J J J J (ZU (n := 1) (cs := pr (b01 x.db) (b01 y.db)) J aPair (.one J J J J (.one J J J J .nil)) J (YW (n := 2) (prs (rsO x) (rsO y)) J aPairs17 J ⟨rfl, rfl, rfl, rfl, rfl, rfl, rfl, rfl, rfl, rfl, rfl, rfl, rfl, rfl, rfl, rfl, rfl, rfl, rfl, rfl, rfl, rfl, rfl, rfl, rfl, rfl, rfl, rfl, rfl, rfl, rfl, rfl, rfl, rfl, rfl, rfl, rfl, rfl, rfl, rfl, rfl, rfl, rfl, rfl, rfl, rfl, rfl, rfl, rfl, rfl, rfl, trivial⟩ rfl (Qa 34 J J J J J szPairs17 J J ?_))))); exact Qj (Fin.keep [(5, .own 2)] ⟨rfl, trivial⟩ cont)
      · refine Qg 2 J J zvPairs17 J J J (QW Ze (ZW y.an) J J J J (ZU (n := 1) (cs := pr (b01 x.an) (b01 y.an)) J aPair (.one J J J J (.one J J J J .nil)) J (QW Ze (ZW x.db) J J J J (QW Ze (ZW y.db) J J J J (ZU (n := 1) (cs := pr (b01 x.db) (b01 y.db)) J aPair (.one J J J J (.one J J J J .nil)) J (YW (n := 2) (prs (rsO x) (rsO y)) J aPairs17 J ⟨rfl, rfl, rfl, rfl, rfl, rfl, rfl, rfl, rfl, rfl, rfl, rfl, rfl, rfl, rfl, rfl, rfl, rfl, rfl, rfl, rfl, rfl, rfl, rfl, rfl, rfl, rfl, rfl, rfl, rfl, rfl, rfl, rfl, rfl, rfl, rfl, rfl, rfl, rfl, rfl, rfl, rfl, rfl, rfl, rfl, rfl, rfl, rfl, rfl, rfl, rfl, trivial⟩ rfl (Qa 34 J J J J J szPairs17 J J ?_))))))); exact Qj (Fin.keep [(5, .own 2)] ⟨rfl, trivial⟩ cont)
    · refine Qg 2 J J zvPairs17 J J J (QW Ze (ZW x.an) J J J J (QW Ze (ZW y.an) J J J J (ZU (n := 1) (cs := pr (b01 x.an) (b01 y.an)) J aPair (.one J J J J (.one J J J J .nil)) J (QW Ze (ZW x.db) J J J J (QW Ze (ZW y.db) J J J J (ZU (n := 1) (cs := pr (b01 x.db) (b01 y.db)) J aPair (.one J J J J (.one J J J J .nil)) J (YW (n := 2) (prs (rsO x) (rsO y)) J aPairs17 J ⟨rfl, rfl, rfl, rfl, rfl, rfl, rfl, rfl, rfl, rfl, rfl, rfl, rfl, rfl, rfl, rfl, rfl, rfl, rfl, rfl, rfl, rfl, rfl, rfl, rfl, rfl, rfl, rfl, rfl, rfl, rfl, rfl, rfl, rfl, rfl, rfl, rfl, rfl, rfl, rfl, rfl, rfl, rfl, rfl, rfl, rfl, rfl, rfl, rfl, rfl, rfl, trivial⟩ rfl (Qa 34 J J J J J szPairs17 J J ?_)))))))); exact Qj (Fin.keep [(5, .own 2)] ⟨rfl, trivial⟩ cont)
  clear hK K; have hlx : (rsO x).length = 17 := rfl; have hly : (rsO y).length = 17 := rfl; have h0 : cmpL ((rsO x).drop 0) ((rsO y).drop 0) = cmpR x y := rfl; generalize rsO x = xs at hlx h0 ⊢; generalize rsO y = ys at hly h0 ⊢; generalize cmpR x y = R at h0 ⊢
  have hfl : ((prs xs ys).flatten).length = 34 := by rw [Zy (k := 2) (prs_len xs ys)]; simp [prs, hlx, hly]
  refine Qz (Qw (Qw (Qx fun K hK => ?_))); refine Q6 (n := 34) J J J J hfl lPairs17 J (Qq J J J (Qj (hK _ _ (Qz (Q5 ?_))))); clear hK K
  refine Xx (α := Nat) (fun j => j ≤ 17 ∧ cmpL (xs.drop j) (ys.drop j) = R)
    (fun j => [(115, .ct (.fr (aggT (prs xs ys).flatten))), (116, .ct (intC j))]) (fun _ => [(2, .box 180 (prs xs ys).flatten), (1, .box 35 (rsCs y)), (0, .box 35 (rsCs x))]) (fun j => 17 - j) 0 ⟨Nat.zero_le _, h0⟩ (by exact QX J ⟨rfl, rfl, trivial⟩) ?_
  rintro j ⟨hj, hc⟩
  dsimp only at hj hc ⊢; refine Qw (Qx fun K hK => ?_); refine Qk ilss J J J J (Qj (hK _ _ (Qz (Qw ?_)))); clear hK K; refine Q2 J (fun h => ?_) (fun h => ?_)
  · have h1 : j < xs.length := by omega
    have h2 : j < ys.length := by omega
    have hdr := cmpL_drop h1 h2; have hat := prs_at h1 h2; generalize xs.getD j 0 = p at hdr hat; generalize ys.getD j 0 = q at hdr hat; refine Q1 (Qz (Qw (Q5 (Qw (Qx fun K hK => ?_)))))
    refine Ops.idxV (n := 2) J J J aPairs17 uPair J (prs_len xs ys) (by omega) (by omega) (by rw [Int.toNat_natCast]; exact hat) J ?_
    refine Qg 3 J J zvPair J J J (Qa 2 J J J J J szPair J J (Qj (hK _ _ (Qz (Qw ?_))))); clear hK K; refine Qx (fun K hK => ?_)
    refine Y2 (n := 1) J J J J aPair (by decide) (by decide) J ?_
    refine QY J J J J J lInt J (Y2 (n := 1) J J J J aPair (by decide) (by decide) J ?_); refine QY J J J J J lInt J (QW gocm (cm_ok p q) J J J J (Qv J J J (Qj (hK _ _ (Qz (Qw ?_)))))); clear hK K; refine Qx (fun K hK => ?_); refine Qq J J J (Qk ineq J J J J (Qj (hK _ _ (Qz ?_)))); clear hK K; refine Q2 J (fun h3 => ?_) (fun h3 => ?_)
    · refine Qw (Qx fun K hK => ?_); refine Qq J J J (Qv J J J (Qj (hK _ _ (Qz (Q0 (Q3 (QZ (QZ (Q3 (QZ ?_)))))))))); clear hK K; refine QU [_] rfl (Qu J QQ) (by rw [← hc, hdr, if_pos h3]; rfl) J
    · refine Q1 (Qz (Qx fun K hK => ?_))
      refine Qk (iadd (by omega) (by omega)) J J J J ?_
      refine Qq J J J (Qj (hK _ _ (Q4 ?_))); clear hK K; rw [if_neg h3] at hdr; refine Ql 3 (Q8 (j + 1) (by omega) ⟨by omega, by rw [← hc, hdr]⟩ (by exact QX J ⟨rfl, by simp only [Int.natCast_add]; rfl, trivial⟩))
  · refine Qs (Qz (Qw (Qx fun K hK => ?_))); refine Qv J J J (Qj (hK _ _ (Qz (Q0 ?_)))); clear hK K
    have hj' : j = 17 := by omega
    refine QU [_] rfl (Qu J QQ) (by rw [← hc, hj', List.drop_of_length_le (by omega)]; rfl) J
set_option maxHeartbeats 8000000 in
theorem rcmpR_ok (x y : Rs) : Ok Tryz.prog 110 [rsC x, rsC y] (intC (cmpR x y)) := by
  have hR : cmpR x y = cmpL (rsO6 x ++ [x.qu]) (rsO6 y ++ [y.qu]) := rfl
  refine Ok.enter Tryz.func110 J _ Tryz.ntmps110 J ?_
  intro S w; refine Qw (Qx fun K hK => ?_); refine Xz 0 J J J J J J J (Xz 1 J J J J J J J (Qv J J J (Qj (hK _ _ (Qz (Qw (Qw ?_))))))); clear hK K; refine St.drawF mixed 100 (.p 0 (.p 2 (.p 5 (.p 7 (.p 10 (.p 12 (.p 15 (.p 17 (.p 20 (.p 23 (.p 27 (.p 29 (.p 32 (.p 34 (.p 37 (.p 39 (.p 42 (.p 45 (.p 49 (.p 52 (.p 56 (.p 58 (.p 61 (.p 62 (.p 65 (.p 66 (.p 70 (.p 71 (.p 73 (.p 74 (.p 77 (.p 78 (.p 80 (.p 81 (.p 84 (.p 85 (.p 87 (.p 88 (.p 91 (.p 92 (.p 94 (.p 95 (.p 99 (.f 1 (.f 3 (.p 4 (.f 6 (.f 8 (.p 9 (.f 11 (.f 13 (.p 14 (.f 16 (.f 18 (.p 19 (.f 21 (.p 22 (.f 24 (.p 25 (.p 26 (.f 28 (.f 30 (.p 31 (.f 33 (.f 35 (.p 36 (.f 38 (.f 40 (.p 41 (.f 43 (.f 46 (.f 50 (.f 53 (.f 57 (.f 59 (.p 60 (.f 63 (.p 64 (.f 67 (.p 68 (.p 69 (.f 72 (.f 75 (.p 76 (.f 79 (.f 82 (.p 83 (.f 86 (.f 89 (.p 90 (.f 93 (.f 96 (.p 97 (.m 44 (.m 47 (.p 48 (.m 51 (.m 54 (.p 55 (.p 98 .done)))))))))))))))))))))))))))))))))))))))))))))))))))))))))))))))))))))))))))))))))))))))))))))))))))) (by kernel_rfl) (fun K hK => ?_)
  refine Ops.batchP rsT_ok 93 (.m 44 (.m 47 (.p 48 (.m 51 (.m 54 (.p 55 (.p 98 .done))))))) ((104, .ct (.fr (aggT (pr (x.id) (y.id))))) :: (103, .ct (intC y.id)) :: (100, .ct (intC x.id)) :: (97, .ct (.fr (aggT (pr (x.le) (y.le))))) :: (96, .ct (intC y.le)) :: (93, .ct (intC x.le)) :: (90, .ct (.fr (aggT (pr (x.co) (y.co))))) :: (89, .ct (intC y.co)) :: (86, .ct (intC x.co)) :: (83, .ct (.fr (aggT (pr (x.ki) (y.ki))))) :: (82, .ct (intC y.ki)) :: (79, .ct (intC x.ki)) :: (76, .ct (.fr (aggT (pr (IntKind.i64.wrap (x.fr.val : Int)) (IntKind.i64.wrap (y.fr.val : Int)))))) :: (75, .ct (intC (IntKind.i64.wrap (y.fr.val : Int)))) :: (74, .ct (adrC y.fr.val)) :: (71, .ct (intC (IntKind.i64.wrap (x.fr.val : Int)))) :: (70, .ct (adrC x.fr.val)) :: (67, .ct (.fr (aggT (pr (x.bk) (y.bk))))) :: (66, .ct (intC y.bk)) :: (64, .ct (intC x.bk)) :: (60, .ct (boolC y.db)) :: (57, .ct (boolC x.db)) :: (53, .ct (boolC y.an)) :: (50, .ct (boolC x.an)) :: (48, .ct (.fr (aggT (pr (x.tt) (y.tt))))) :: (47, .ct (intC y.tt)) :: (45, .ct (intC x.tt)) :: (43, .ct (.fr (aggT (pr (x.fl) (y.fl))))) :: (42, .ct (intC y.fl)) :: (40, .ct (intC x.fl)) :: (38, .ct (.fr (aggT (pr (x.pr) (y.pr))))) :: (37, .ct (intC y.pr)) :: (35, .ct (intC x.pr)) :: (33, .ct (.fr (aggT (pr (IntKind.i64.wrap (x.dst.val : Int)) (IntKind.i64.wrap (y.dst.val : Int)))))) :: (32, .ct (intC (IntKind.i64.wrap (y.dst.val : Int)))) :: (31, .ct (adrC y.dst.val)) :: (29, .ct (intC (IntKind.i64.wrap (x.dst.val : Int)))) :: (28, .ct (adrC x.dst.val)) :: (26, .ct (.fr (aggT (pr (x.nu) (y.nu))))) :: (25, .ct (intC y.nu)) :: (23, .ct (intC x.nu)) :: (21, .ct (.fr (aggT (pr (x.ru) (y.ru))))) :: (20, .ct (intC y.ru)) :: (18, .ct (intC x.ru)) :: (16, .ct (.fr (aggT (pr (x.va) (y.va))))) :: (15, .ct (intC y.va)) :: (13, .ct (intC x.va)) :: (11, .ct (.fr (aggT (pr (x.tm) (y.tm))))) :: (10, .ct (intC y.tm)) :: (8, .ct (intC x.tm)) :: (106, .ct (intC 0)) :: (102, .loc 1 15) :: (101, .loc 1 11) :: (99, .loc 0 15) :: (98, .loc 0 11) :: (95, .loc 1 14) :: (94, .loc 1 11) :: (92, .loc 0 14) :: (91, .loc 0 11) :: (88, .loc 1 13) :: (87, .loc 1 11) :: (85, .loc 0 13) :: (84, .loc 0 11) :: (81, .loc 1 12) :: (80, .loc 1 11) :: (78, .loc 0 12) :: (77, .loc 0 11) :: (73, .loc 1 11) :: (72, .loc 1 11) :: (69, .loc 0 11) :: (68, .loc 0 11) :: (65, .loc 1 10) :: (63, .loc 0 10) :: (59, .loc 1 9) :: (56, .loc 0 9) :: (52, .loc 1 8) :: (49, .loc 0 8) :: (46, .loc 1 7) :: (44, .loc 0 7) :: (41, .loc 1 6) :: (39, .loc 0 6) :: (36, .loc 1 5) :: (34, .loc 0 5) :: (30, .loc 1 4) :: (27, .loc 0 4) :: (24, .loc 1 2) :: (22, .loc 0 2) :: (19, .loc 1 1) :: (17, .loc 0 1) :: (14, .loc 1 0) :: (12, .loc 0 0) :: (9, .loc 1 3) :: (7, .loc 0 3) :: (4, .ct (intC 0)) :: (3, .own 1) :: (2, .own 0) :: argL 0 [rsC x, rsC y]) (by kernel_rfl) [(2, .own 0), (3, .own 1), (11, .ct (.fr (aggT (pr (x.tm) (y.tm))))), (16, .ct (.fr (aggT (pr (x.va) (y.va))))), (21, .ct (.fr (aggT (pr (x.ru) (y.ru))))), (26, .ct (.fr (aggT (pr (x.nu) (y.nu))))), (33, .ct (.fr (aggT (pr (IntKind.i64.wrap (x.dst.val : Int)) (IntKind.i64.wrap (y.dst.val : Int)))))), (38, .ct (.fr (aggT (pr (x.pr) (y.pr))))), (43, .ct (.fr (aggT (pr (x.fl) (y.fl))))), (48, .ct (.fr (aggT (pr (x.tt) (y.tt))))), (67, .ct (.fr (aggT (pr (x.bk) (y.bk))))), (76, .ct (.fr (aggT (pr (IntKind.i64.wrap (x.fr.val : Int)) (IntKind.i64.wrap (y.fr.val : Int)))))), (83, .ct (.fr (aggT (pr (x.ki) (y.ki))))), (90, .ct (.fr (aggT (pr (x.co) (y.co))))), (97, .ct (.fr (aggT (pr (x.le) (y.le))))), (104, .ct (.fr (aggT (pr (x.id) (y.id))))), (50, .ct (boolC x.an)), (53, .ct (boolC y.an)), (57, .ct (boolC x.db)), (60, .ct (boolC y.db)), (106, .ct (intC 0))] ⟨rfl, rfl, rfl, rfl, rfl, rfl, rfl, rfl, rfl, rfl, rfl, rfl, rfl, rfl, rfl, rfl, rfl, rfl, rfl, rfl, rfl, trivial⟩ ?_
  refine QW gobit (bit_ok x.an) J J J J (QW gobit (bit_ok y.an) J J J J (ZU (n := 1) (cs := pr (b01 x.an) (b01 y.an)) J aPair (.one J J J J (.one J J J J .nil)) J (QW gobit (bit_ok x.db) J J J J (QW gobit (bit_ok y.db) J J J J (ZU (n := 1) (cs := pr (b01 x.db) (b01 y.db)) J aPair (.one J J J J (.one J J J J .nil)) J (YW (n := 2) (prs (rsO6 x) (rsO6 y)) J aPairs16 J ⟨rfl, rfl, rfl, rfl, rfl, rfl, rfl, rfl, rfl, rfl, rfl, rfl, rfl, rfl, rfl, rfl, rfl, rfl, rfl, rfl, rfl, rfl, rfl, rfl, rfl, rfl, rfl, rfl, rfl, rfl, rfl, rfl, rfl, rfl, rfl, rfl, rfl, rfl, rfl, rfl, rfl, rfl, rfl, rfl, rfl, rfl, rfl, rfl, trivial⟩ rfl (Qj (hK _ _ ?_)))))))); clear hK K; have hlx : (rsO6 x).length = 16 := rfl; have hly : (rsO6 y).length = 16 := rfl; generalize rsO6 x = xs at hlx hR; generalize rsO6 y = ys at hly hR; generalize cmpR x y = R at hR ⊢; refine Qz (Q5 ?_)
  refine Xx (α := Nat) (fun j => j ≤ 16 ∧ cmpL (xs.drop j ++ [x.qu]) (ys.drop j ++ [y.qu]) = R)
    (fun j => [(2, .own 0), (3, .own 1), (105, .ct (.fr (aggT (prs xs ys).flatten))), (106, .ct (intC j))]) (fun _ => [(1, .box 35 (rsCs y)), (0, .box 35 (rsCs x))]) (fun j => 16 - j) 0 ⟨Nat.zero_le _, hR.symm⟩ (by exact QX J ⟨rfl, rfl, rfl, rfl, trivial⟩) ?_
  rintro j ⟨hj, hc⟩
  dsimp only at hj hc ⊢; refine Qw (Qx fun K hK => ?_); refine Qk ilss J J J J (Qj (hK _ _ (Qz (Qw ?_)))); clear hK K; refine Q2 J (fun h => ?_) (fun h => ?_)
  · have h1 : j < xs.length := by omega
    have h2 : j < ys.length := by omega
    have hdr : cmpL (xs.drop j ++ [x.qu]) (ys.drop j ++ [y.qu]) = if cmp3 (xs.getD j 0) (ys.getD j 0) ≠ 0 then cmp3 (xs.getD j 0) (ys.getD j 0) else cmpL (xs.drop (j + 1) ++ [x.qu]) (ys.drop (j + 1) ++ [y.qu]) := by
      rw [List.drop_eq_getElem_cons h1, List.drop_eq_getElem_cons h2, List.getD_eq_getElem?_getD, List.getElem?_eq_getElem h1, List.getD_eq_getElem?_getD, List.getElem?_eq_getElem h2]; rfl
    have hat := prs_at h1 h2; generalize xs.getD j 0 = p at hdr hat; generalize ys.getD j 0 = q at hdr hat; refine Q1 (Qz (Qw (Q5 (Qw (Qx fun K hK => ?_)))))
    refine Ops.idxV (n := 2) J J J aPairs16 uPair J (prs_len xs ys) (by omega) (by omega) (by rw [Int.toNat_natCast]; exact hat) J ?_
    refine Qg 2 J J zvPair J J J (Qa 2 J J J J J szPair J J (Qj (hK _ _ (Qz (Qw ?_))))); clear hK K; refine Qx (fun K hK => ?_)
    refine Y2 (n := 1) J J J J aPair (by decide) (by decide) J ?_
    refine QY J J J J J lInt J (Y2 (n := 1) J J J J aPair (by decide) (by decide) J ?_); refine QY J J J J J lInt J (Qk ineq J J J J (Qj (hK _ _ (Qz ?_)))); clear hK K; refine Q2 J (fun h3 => ?_) (fun h3 => ?_)
    · have hne : cmp3 p q ≠ 0 := by rw [Y4]; split <;> (try split) <;> omega
      refine Qw (Qx fun K hK => ?_)
      refine Y2 (n := 1) J J J J aPair (by decide) (by decide) J ?_
      refine QY J J J J J lInt J (Y2 (n := 1) J J J J aPair (by decide) (by decide) J ?_); refine QY J J J J J lInt J (QW gorless (rless_ok p q) J J J J (Qv J J J (Qj (hK _ _ (Qz (Q0 (Q3 (QZ (QZ (Q3 (QZ ?_))))))))))); clear hK K; refine QU [_] rfl (Qu J QQ) (by rw [← hc, hdr, if_pos hne]; rfl) J
    · have he : cmp3 p q = 0 := by rw [Classical.not_not.1 h3]; exact Y4 q q |>.trans (by rw [if_neg (Int.lt_irrefl _), if_neg (Int.lt_irrefl _)])
      refine Q1 (Qz (Qx fun K hK => ?_))
      refine Qk (iadd (by omega) (by omega)) J J J J ?_
      refine Qq J J J (Qj (hK _ _ (Q4 ?_))); clear hK K; rw [he] at hdr; refine Ql 2 (Q8 (j + 1) (by omega) ⟨by omega, by rw [← hc, hdr]; rfl⟩ (by exact QX J ⟨rfl, rfl, rfl, by simp only [Int.natCast_add]; rfl, trivial⟩))
  · have hj' : j = 16 := by omega
    rw [hj', List.drop_of_length_le (by omega), List.drop_of_length_le (by omega)] at hc
    have he : cmpL ([] ++ [x.qu]) ([] ++ [y.qu]) = cmp3 x.qu y.qu := by
      show (if cmp3 x.qu y.qu ≠ 0 then cmp3 x.qu y.qu else 0) = _; split
      · rfl
      · rename_i h5; exact (Classical.not_not.1 h5).symm
    refine Qs (Qz (Qw (Qx fun K hK => ?_))); refine QV J J J fS11 J (XK J J fN5 J (QY J J J J J lInt J (QV J J J fS11 J (XK J J fN5 J (QY J J J J J lInt J (QW gorless (rless_ok x.qu y.qu) J J J J (Qv J J J (Qj (hK _ _ (Qz (Q0 ?_))))))))))); clear hK K; refine QU [_] rfl (Qu J QQ) (by rw [← hc, he]; rfl) J
end Go.Proofs.YtlkdkbdgnjcopaaGreat
namespace Go.Limbs
variable {α : Type} [DecidableEq α]
def ddF : α → List α → List α
  | _, [] => []
  | a, b :: l => if b = a then ddF a l else b :: ddF b l
def dd : List α → List α
  | [] => []
  | a :: l => a :: ddF a l
theorem ddF_len : ∀ (a : α) (l : List α), (ddF a l).length ≤ l.length
  | _, [] => Nat.le_refl _
  | a, b :: l => by
    unfold ddF
    split
    · exact Nat.le_succ_of_le (ddF_len a l)
    · exact Nat.succ_le_succ (ddF_len b l)
theorem dd_len (l : List α) : (dd l).length ≤ l.length := by
  cases l with
  | nil => exact Nat.le_refl _
  | cons a l => exact Nat.succ_le_succ (ddF_len a l)
theorem ddF_snoc : ∀ (a : α) (l : List α) (b : α), ddF a (l ++ [b]) = if b = (l.getLast?.getD a) then ddF a l else ddF a l ++ [b]
  | a, [], b => by
    by_cases h : b = a <;> simp [ddF, h]
  | a, c :: l, b => by
    have h1 : (c :: l).getLast?.getD a = l.getLast?.getD c := by
      cases l with
      | nil => rfl
      | cons d l =>
        rw [List.getLast?_cons_cons, List.getLast?_cons]; rfl
    rw [h1]; simp only [List.cons_append, ddF]; by_cases h : c = a
    · subst h; rw [if_pos J, if_pos J, ddF_snoc c l b]
    · rw [if_neg h, if_neg h, ddF_snoc c l b]
      split <;> rfl
theorem dd_snoc {l : List α} {a b : α} (h : l.getLast? = some a) : dd (l ++ [b]) = if b = a then dd l else dd l ++ [b] := by
  cases l with
  | nil => cases h
  | cons c l =>
    have h1 : l.getLast?.getD c = a := by
      cases l with
      | nil => simpa using h
      | cons d l =>
        rw [List.getLast?_cons_cons] at h; rw [h]; rfl
    show c :: ddF c (l ++ [b]) = _; rw [ddF_snoc, h1]
    split <;> rfl
omit [DecidableEq α] in
theorem take_last {l : List α} {z : α} {p : Nat} (h0 : 0 < p) (h : p ≤ l.length) : (l.take p).getLast? = some (l.getD (p - 1) z) := by
  rw [List.getLast?_eq_getElem?, List.length_take, Nat.min_eq_left h, List.getElem?_take, if_pos (by omega), List.getElem?_eq_getElem (by omega), List.getD_eq_getElem?_getD, List.getElem?_eq_getElem (by omega)]; rfl
theorem dd_step {l : List α} {z : α} {p : Nat} (h0 : 0 < p) (h : p < l.length) : dd (l.take (p + 1)) = if l.getD p z = l.getD (p - 1) z then dd (l.take p) else dd (l.take p) ++ [l.getD p z] := by
  have e : l.take (p + 1) = l.take p ++ [l.getD p z] := by
    rw [List.take_add_one, List.getElem?_eq_getElem h, List.getD_eq_getElem?_getD, List.getElem?_eq_getElem h]; rfl
  rw [e, dd_snoc (take_last (z := z) h0 (Nat.le_of_lt h))]
theorem dd_small {l : List α} (h : l.length < 2) : dd l = l := by
  match l, h with
  | [], _ => rfl
  | [a], _ => rfl
end Go.Limbs
namespace Go.Own
open Go.RowKit Go.Sort Go.Shelf Go.Lib Go.Proofs
theorem grown_of {w w' : World} (h : Below w.heap.size w w') : ∃ q os', w' = grow (w.drewN q) os' := by
  refine ⟨w'.drawn - w.drawn, w'.heap.extract w.heap.size w'.heap.size, ?_⟩; obtain ⟨h1, h2, h3, h4, h5, h6⟩ := h; obtain ⟨heap, tape, drawn, os, output⟩ := w; obtain ⟨heap', tape', drawn', os', output'⟩ := w'; dsimp only at h1 h2 h3 h4 h5 h6; subst h1 h2 h3; unfold grow World.drewN; dsimp only
  congr 1
  · apply Array.ext_getElem?
    intro k; rcases Nat.lt_or_ge k heap.size with hk | hk
    · rw [h5 k hk, Array.getElem?_append_left hk]
    · rw [Array.getElem?_append_right hk, Array.getElem?_extract]; split
      · congr 1; omega
      · rw [Array.getElem?_eq_none (by omega)]
  · omega
section
variable {α : Type} [Inhabited α] {P : Program} {enc : α → List Value} {k : Nat} {cf : α → α → Int} {g : Nat}
abbrev encC (enc : α → List Value) (x : α) : List CT := (enc x).map CT.ex
abbrev flatC (enc : α → List Value) (l : List α) : List CT := (l.map (encC enc)).flatten
theorem cells_ex' (S : BSet) (w : World) : ∀ vs : List Value, cells S w (vs.map CT.ex) vs
  | [] => trivial
  | v :: vs => ⟨rfl, cells_ex' S w vs⟩
theorem cmpLays_of (hc : ∀ x y, Ok P g [.fr (aggT (encC enc x)), .fr (aggT (encC enc y))] (.ex (.int .i64 (cf x y)))) (blk off size : Nat) (w : World) : CmpLays P g #[] enc k cf blk off size w := fun m os dk _ x y => by
  refine (hc x y (fun _ => True) _ [.agg (enc x).toArray, .agg (enc y).toArray] (fun _ _ => trivial) ⟨⟨_, rfl, cells_ex' _ _ _⟩, ⟨_, rfl, cells_ex' _ _ _⟩, trivial⟩).mono ?_
  rintro e w' ⟨v, rfl, hv, hb⟩
  have hv : v = .int .i64 (cf x y) := hv
  subst hv
  exact ⟨rfl, grown_of hb⟩
theorem ex_cells {S : BSet} {w : World} : ∀ {vs us : List Value}, cells S w (vs.map CT.ex) us → us = vs
  | [], [], _ => rfl
  | [], _ :: _, h => h.elim
  | _ :: _, [], h => h.elim
  | v :: vs, u :: us, h => by
    have h1 : u = v := h.1
    rw [h1, ex_cells h.2]
omit [Inhabited α] in
theorem flatC_eq (enc : α → List Value) (l : List α) : flatC enc l = ((l.map enc).flatten).map CT.ex := by
  unfold flatC; rw [List.map_flatten, List.map_map]; rfl
omit [Inhabited α] in
theorem flat_len (hk : ∀ x, (enc x).length = k) (l : List α) : (l.map enc).flatten.length = l.length * k := by
  induction l with
  | nil => simp
  | cons a l ih => rw [List.map_cons, List.flatten_cons, List.length_append, hk, ih, List.length_cons, Nat.succ_mul, Nat.add_comm]
theorem flat_get (hk : ∀ x, (enc x).length = k) : ∀ (l : List α) (i o : Nat), i < l.length → o < k → (l.map enc).flatten[i * k + o]? = (enc (l.getD i default))[o]?
  | [], i, o, h, _ => by simp at h
  | a :: l, 0, o, _, ho => by
    rw [List.map_cons, List.flatten_cons, Nat.zero_mul, Nat.zero_add, List.getElem?_append_left (by rw [hk]; exact ho)]; rfl
  | a :: l, i + 1, o, h, ho => by
    rw [List.map_cons, List.flatten_cons, List.getElem?_append_right (by rw [hk, Nat.succ_mul]; omega), hk]
    rw [show (i + 1) * k + o - k = i * k + o by rw [Nat.succ_mul]; omega, flat_get hk l i o (by simpa using h) ho]; rfl
theorem flatK_list (hk : ∀ x, (enc x).length = k) (k0 : 0 < k) (l : List α) : (flatK enc k l.toArray).toList = (l.map enc).flatten := by
  apply List.ext_getElem?
  intro t; rcases Nat.lt_or_ge t (l.length * k) with h | h
  · have h1 : t < (flatK enc k l.toArray).size := by rw [size_flatK]; simpa using h
    have h2 := get_flatK enc k l.toArray t (by simpa using h); have hd : t / k < l.length := Nat.div_lt_of_lt_mul (by rw [Nat.mul_comm]; exact h); have hm : t % k < k := Nat.mod_lt _ k0
    have e : t = t / k * k + t % k := by rw [Nat.mul_comm]; exact (Nat.div_add_mod t k).symm
    rw [Array.getElem?_toList, Array.getElem?_eq_getElem h1]; rw [getElem!_pos _ t h1] at h2; rw [h2]
    conv => rhs; rw [e]
    rw [flat_get hk l _ _ hd hm]
    have e3 : l.toArray[t / k]! = l.getD (t / k) default := by
      rw [getElem!_pos _ _ (by simpa using hd), List.getElem_toArray, List.getD_eq_getElem?_getD, List.getElem?_eq_getElem hd]; rfl
    rw [e3]
    have hl : t % k < (enc (l.getD (t / k) default)).length := by rw [hk]; exact hm
    rw [getElem!_pos (enc (l.getD (t / k) default)) (t % k) hl, List.getElem?_eq_getElem hl]
  · rw [List.getElem?_eq_none (show (flatK enc k l.toArray).toList.length ≤ t by rw [Array.length_toList, size_flatK]; simpa using h), List.getElem?_eq_none (show (l.map enc).flatten.length ≤ t by rw [flat_len hk]; exact h)]
end
section
variable {α : Type} [Inhabited α] {P : Program} {ρ : Ren} {enc : α → List Value} {k : Nat} {cf : α → α → Int} {g : Nat}
set_option maxHeartbeats 1000000 in
theorem sortFunc_L (L : SlLaysF0.n6 P ρ) (k0 : 0 < k) (aE : ∀ w, (isAgg (ρ.t 24)).run P w = .ok true w) (zE : ∀ w, (Go.sizeOf (ρ.t 24)).run P w = .ok k w) (hk : ∀ x, (enc x).length = k) (h1 : ∀ x, ∀ v ∈ enc x, v.oneCell' = true)
    (hO : SWO (ltOf cf)) (hT : ∀ x y, (ltOf cf) x y = false → (ltOf cf) y x = false → x = y) (eg : ∀ args w, (callFunc g args).run P w = .ok (.enter g args) w)
    (hc : ∀ x y, Ok P g [.fr (aggT (encC enc x)), .fr (aggT (encC enc y))] (.ex (.int .i64 (cf x y)))) (el : TypeId) (l : List α) (hl : l.length < 4611686018427387904) :
    OkL P (ρ.f 6) el k (flatC enc l) [.ex (.func (.func g) #[] #[])] (.fr (tupT [])) (flatC enc (l.mergeSort fun x y => !(ltOf cf) y x)) := by
  intro S w h vs hS hgS hrow hA; obtain ⟨n, us, how, hcs⟩ := hrow; rw [flatC_eq] at hcs; obtain rfl := ex_cells hcs
  obtain rfl : vs = [.func (.func g) #[] #[]] := by
    cases vs with
    | nil => exact hA.elim
    | cons v vs =>
      cases vs with
      | nil =>
        have : v = .func (.func g) #[] #[] := hA.1; rw [this]
      | cons u us => exact hA.2.elim
  have hlen := how.1; rw [flat_len hk] at hlen; have hn : l.length = n := Nat.eq_of_mul_eq_mul_right k0 hlen; rcases how.2 with ⟨rfl, h0⟩ | ⟨gb, cap, cur, rfl, _, hgb, hnc, hcm, hcz, htk⟩
  · have e : l = [] := List.length_eq_zero_iff.1 (by omega); subst e
    refine (AnyF.slices_SortFunc_none L none 0 _ w).mono ?_
    rintro e w' ⟨rfl, rfl⟩
    exact ⟨_, rfl, ⟨[], rfl, trivial⟩, ⟨n, [], ⟨by simpa using hlen, .inl ⟨rfl, h0⟩⟩, by rw [List.mergeSort_nil]; trivial⟩, ⟨rfl, rfl, rfl, Nat.le_refl _, fun _ _ _ => rfl, Nat.le_refl _⟩⟩
  · subst hn
    have hH : HoldsK enc k w gb 0 l.toArray := by
      intro j hj
      have hj' : j < l.length * k := by simpa using hj
      have hc2 : cur[j]? = some (flatK enc k l.toArray)[j]! := by
        have h3 : (flatK enc k l.toArray).toList[j]? = some (flatK enc k l.toArray)[j]! := by
          rw [Array.getElem?_toList, Array.getElem?_eq_getElem hj, getElem!_pos _ j hj]
        rw [flatK_list hk k0, ← htk, List.getElem?_take, if_pos hj'] at h3; rw [← Array.getElem?_toList]; exact h3
      constructor
      · show (match w.heap[gb]? with | some (.cells c _ _) => if (none : Option _).isSome then none else c[0 + j]? | _ => none) = _; rw [hgb, Nat.zero_add]; exact hc2
      · show (match w.heap[gb]? with | some (.cells _ _ (lo, hi)) => decide (lo ≤ 0 + j) && decide (0 + j < hi) | _ => false) = _; rw [hgb]; simp
    have hsz : gb < w.heap.size := ZK hgb; have hcon := AnyQ.slices_SortFunc_total L k aE zE enc hk h1 cf hO g #[] gb 0 cap l.toArray w eg (cmpLays_of hc gb 0 _ w) hH hsz (by simpa using hl) hT
    refine hcon.mono ?_
    rintro e w' ⟨rfl, m, os, rfl⟩
    generalize hd : (l.toArray.toList.mergeSort fun x y => !(ltOf cf) y x) = d
    have hd2 : (l.mergeSort fun x y => !(ltOf cf) y x) = d := by rw [← hd]
    have hdl : d.length = l.length := by rw [← hd2, List.length_mergeSort]
    have hFs : (flatK enc k d.toArray).size = l.length * k := by rw [size_flatK]; simp [hdl]
    have hheap : (sortWorldK enc k w gb 0 m d.toArray os).heap = (w.heap.modify gb (onCells (putCells id 0 (flatK enc k d.toArray)))) ++ os := rfl; have hms : (w.heap.modify gb (onCells (putCells id 0 (flatK enc k d.toArray)))).size = w.heap.size := Array.size_modify ..; refine ⟨_, rfl, ⟨[], rfl, trivial⟩, ⟨l.length, (d.map enc).flatten, ⟨by rw [flat_len hk, hdl], .inr ⟨gb, cap, putCells id 0 (flatK enc k d.toArray) cur, rfl, Nat.zero_le _, ?_, hnc, hcm, ?_, ?_⟩⟩, ?_⟩, ⟨rfl, rfl, rfl, ?_, fun q hq hne => ?_, ?_⟩⟩
    · rw [hheap, Array.getElem?_append_left (by rw [hms]; exact hsz), Array.getElem?_modify, if_pos J, hgb]; rfl
    · unfold putCells; rw [Array.size_mapIdx]; exact hcz
    · have hle : l.length * k ≤ cur.size := by rw [hcz]; exact Nat.mul_le_mul_right _ hnc
      apply List.ext_getElem?
      intro t; rw [List.getElem?_take]; rcases Nat.lt_or_ge t (l.length * k) with ht | ht
      · rw [if_pos ht, Array.getElem?_toList, ← flatK_list hk k0, Array.getElem?_toList]; unfold putCells; rw [Array.getElem?_mapIdx, Array.getElem?_eq_getElem (show t < cur.size by omega), Array.getElem?_eq_getElem (show t < (flatK enc k d.toArray).size by omega)]; simp only [Option.map_some, id]; rw [if_pos ⟨Nat.zero_le _, by omega⟩, Nat.sub_zero, getElem!_pos _ t (by omega)]
      · rw [if_neg (by omega), List.getElem?_eq_none (by rw [flat_len hk, hdl]; exact ht)]
    · rw [flatC_eq]; exact cells_ex' _ _ _
    · show w.heap.size ≤ (sortWorldK enc k w gb 0 m d.toArray os).heap.size; rw [hheap, Array.size_append, hms]; omega
    · have hq : q < w.heap.size := hq
      have hne : gb ≠ q := fun e => hne (by rw [← e]; rfl)
      rw [hheap, Array.getElem?_append_left (by rw [hms]; exact hq), Array.getElem?_modify, if_neg hne]
    · show w.drawn ≤ w.drawn + m; omega
end
end Go.Own
namespace Go.Limbs
open Go.Sort Go.Shelf Go.Proofs
variable {α : Type} {cf : α → α → Int}
structure Ord (cf : α → α → Int) : Prop where
  anti : ∀ a b, cf b a = - cf a b
  eq0 : ∀ a b, cf a b = 0 → a = b
  trans : ∀ a b c, cf a b < 0 → cf b c < 0 → cf a c < 0
theorem Ord.self (O : Ord cf) (a : α) : cf a a = 0 := by have := O.anti a a; omega
theorem Ord.swo (O : Ord cf) : SWO (ltOf cf) := by
  have nt : ∀ x y z, cf x z < 0 → cf x y < 0 ∨ cf y z < 0 := fun x y z h => by
    rcases Int.lt_trichotomy (cf x y) 0 with h1 | h1 | h1
    · exact .inl h1
    · rw [O.eq0 x y h1] at h; exact .inr h
    · exact .inr (O.trans y x z (by rw [O.anti x y]; omega) h)
  refine ⟨fun x => ?_, fun x y z h1 h2 => ?_, fun x y z h1 h2 => ?_⟩
  · simp only [ltOf, O.self]; decide
  · simp only [ltOf, decide_eq_true_eq] at *; exact O.trans x y z h1 h2
  · simp only [ltOf, decide_eq_false_iff_not] at *; intro h; rcases nt x y z h with h | h
    · exact h1 h
    · exact h2 h
theorem Ord.tot (O : Ord cf) : ∀ x y, (ltOf cf) x y = false → (ltOf cf) y x = false → x = y := fun x y h1 h2 => by
  simp only [ltOf, decide_eq_false_iff_not] at *
  rw [O.anti x y] at h2
  exact O.eq0 x y (by omega)
def Up (cf : α → α → Int) (l : List α) : Prop := l.Pairwise (fun a b => cf a b < 0)
theorem Up.ext (O : Ord cf) : ∀ {l m : List α}, Up cf l → Up cf m → (∀ x, x ∈ l ↔ x ∈ m) → l = m
  | [], [], _, _, _ => rfl
  | [], y :: m, _, _, h => by have := (h y).2 (List.mem_cons_self ..); cases this
  | x :: l, [], _, _, h => by have := (h x).1 (List.mem_cons_self ..); cases this
  | x :: l, y :: m, hl, hm, h => by
    have hl' := List.pairwise_cons.1 hl
    have hm' := List.pairwise_cons.1 hm
    have e : x = y := by
      rcases List.mem_cons.1 ((h x).1 (List.mem_cons_self ..)) with e | e
      · exact e
      · rcases List.mem_cons.1 ((h y).2 (List.mem_cons_self ..)) with e' | e'
        · exact e'.symm
        · have h1 := hm'.1 x e; have h2 := hl'.1 y e'; rw [O.anti y x] at h2; omega
    subst e
    have nl : x ∉ l := fun hx => by have := hl'.1 x hx; rw [O.self] at this; omega
    have nm : x ∉ m := fun hx => by have := hm'.1 x hx; rw [O.self] at this; omega
    rw [Up.ext O hl'.2 hm'.2 (fun z => ⟨fun hz => by
      rcases List.mem_cons.1 ((h z).1 (List.mem_cons_of_mem _ hz)) with rfl | h1
      · exact absurd hz nl
      · exact h1, fun hz => by
      rcases List.mem_cons.1 ((h z).2 (List.mem_cons_of_mem _ hz)) with rfl | h1
      · exact absurd hz nm
      · exact h1⟩)]
section
variable [DecidableEq α]
theorem ddF_up (O : Ord cf) : ∀ (l : List α) (a : α), (a :: l).Pairwise (fun a b => cf a b ≤ 0) → Up cf (a :: ddF a l) ∧ ∀ x, x ∈ a :: ddF a l ↔ x ∈ a :: l
  | [], a, _ => ⟨List.pairwise_singleton _ _, fun x => Iff.rfl⟩
  | b :: l, a, h => by
    have h' := List.pairwise_cons.1 h
    unfold ddF
    by_cases e : b = a
    · subst e
      rw [if_pos rfl]
      obtain ⟨h1, h2⟩ := ddF_up O l b h'.2
      exact ⟨h1, fun x => by rw [h2 x]; simp⟩
    · rw [if_neg e]
      obtain ⟨h1, h2⟩ := ddF_up O l b h'.2
      refine ⟨List.pairwise_cons.2 ⟨fun x hx => ?_, h1⟩, fun x => by rw [List.mem_cons, h2 x, List.mem_cons (a := x) (b := a)]⟩
      have hb := h'.1 b (List.mem_cons_self ..)
      have hb2 : cf a b < 0 := by
        rcases Int.lt_or_eq_of_le hb with h3 | h3
        · exact h3
        · exact absurd (O.eq0 a b h3).symm e
      rcases List.mem_cons.1 hx with rfl | hx
      · exact hb2
      · exact O.trans a b x hb2 ((List.pairwise_cons.1 h1).1 x hx)
def sd (cf : α → α → Int) (l : List α) : List α := dd (l.mergeSort fun x y => !(ltOf cf) y x)
theorem Zt (O : Ord cf) (l : List α) : Up cf (sd cf l) ∧ ∀ x, x ∈ sd cf l ↔ x ∈ l := by
  have hp : (l.mergeSort fun x y => !(ltOf cf) y x).Pairwise (fun a b => cf a b ≤ 0) := by
    have h := List.pairwise_mergeSort (le := fun x y => !(ltOf cf) y x) (fun a b c h1 h2 => by
      simp only [ltOf, Bool.not_eq_true', decide_eq_false_iff_not] at *; intro h; rcases Int.lt_trichotomy (cf c b) 0 with h3 | h3 | h3
      · exact h2 h3
      · rw [O.eq0 c b h3] at h; exact h1 h
      · exact h1 (O.trans b c a (by rw [O.anti c b]; omega) h)) (fun a b => by
      simp only [ltOf, Bool.or_eq_true, Bool.not_eq_true', decide_eq_false_iff_not]
      rw [O.anti a b]; omega) l
    refine h.imp (fun {a b} hab => ?_); simp only [ltOf, Bool.not_eq_true', decide_eq_false_iff_not] at hab; rw [O.anti a b] at hab; omega
  have hm : ∀ x, x ∈ (l.mergeSort fun x y => !(ltOf cf) y x) ↔ x ∈ l := fun x => List.mem_mergeSort
  unfold sd; generalize (l.mergeSort fun x y => !(ltOf cf) y x) = m at *
  cases m with
  | nil => exact ⟨List.Pairwise.nil, hm⟩
  | cons a m =>
    obtain ⟨h1, h2⟩ := ddF_up O m a hp; exact ⟨h1, fun x => (h2 x).trans (hm x)⟩
theorem Yv (cf : α → α → Int) (l : List α) : (sd cf l).length ≤ l.length := Nat.le_trans (dd_len _) (Nat.le_of_eq (List.length_mergeSort _))
theorem sd_eq (O : Ord cf) {l : List α} (h : Up cf l) : sd cf l = l := Up.ext O (Zt O l).1 h (Zt O l).2
end
def posF (cf : α → α → Int) (z : α) (l : List α) (c : α) : Nat → Nat
  | 0 => 0
  | k + 1 => if 0 < cf (l.getD k z) c then posF cf z l c k else k + 1
theorem posF_le (cf : α → α → Int) (z : α) (l : List α) (c : α) : ∀ k, posF cf z l c k ≤ k
  | 0 => Nat.le_refl _
  | k + 1 => by simp only [posF]; split
                · exact Nat.le_succ_of_le (posF_le cf z l c k)
                · exact Nat.le_refl _
theorem posF_step (cf : α → α → Int) (z : α) (l : List α) (c : α) {k : Nat} (h : 0 < k) : posF cf z l c k = if 0 < cf (l.getD (k - 1) z) c then posF cf z l c (k - 1) else k := by
  obtain ⟨q, rfl⟩ : ∃ q, k = q + 1 := ⟨k - 1, by omega⟩; rfl
def putF (cf : α → α → Int) (z : α) (l : List α) (c : α) : List α :=
  if posF cf z l c l.length ≠ 0 ∧ cf (l.getD (posF cf z l c l.length - 1) z) c = 0 then l else l.take (posF cf z l c l.length) ++ c :: l.drop (posF cf z l c l.length)
theorem posF_spec (z : α) (l : List α) (c : α) : ∀ k, k ≤ l.length → (∀ x ∈ (l.take k).drop (posF cf z l c k), 0 < cf x c) ∧ (posF cf z l c k ≠ 0 → ¬ 0 < cf (l.getD (posF cf z l c k - 1) z) c)
  | 0, _ => ⟨by simp [posF], fun h => absurd rfl h⟩
  | k + 1, hk => by
    obtain ⟨h1, h2⟩ := posF_spec z l c k (by omega)
    have hle := posF_le cf z l c k
    have ht : l.take (k + 1) = l.take k ++ [l.getD k z] := by
      rw [List.take_add_one, List.getElem?_eq_getElem (by omega), List.getD_eq_getElem?_getD, List.getElem?_eq_getElem (by omega)]; rfl
    simp only [posF]; by_cases h : 0 < cf (l.getD k z) c
    · rw [if_pos h]; refine ⟨fun x hx => ?_, h2⟩; rw [ht, List.drop_append_of_le_length (by simp; omega)] at hx; rcases List.mem_append.1 hx with hx | hx
      · exact h1 x hx
      · rw [List.mem_singleton.1 hx]; exact h
    · rw [if_neg h]; refine ⟨fun x hx => ?_, fun _ => h⟩; rw [List.drop_of_length_le (by simp; omega)] at hx; cases hx
theorem putF_up (O : Ord cf) {z : α} {l : List α} {c : α} (ha : Up cf l) : Up cf (putF cf z l c) := by
  obtain ⟨h1, h2⟩ := posF_spec (cf := cf) z l c l.length (Nat.le_refl _); have hle := posF_le cf z l c l.length; rw [List.take_length] at h1; unfold putF; generalize posF cf z l c l.length = k at *; split
  · exact ha
  · rename_i hne
    have hs : Up cf (l.take k ++ l.drop k) := by rw [List.take_append_drop]; exact ha
    obtain ⟨hs1, hs2, hs3⟩ := List.pairwise_append.1 hs
    have hd : ∀ y ∈ l.drop k, cf c y < 0 := fun y hy => by
      have := h1 y hy; rw [O.anti y c]; omega
    have ht : ∀ x ∈ l.take k, cf x c < 0 := fun x hx => by
      have hk0 : k ≠ 0 := fun h => by subst h; simp at hx
      have ht : l.take k = l.take (k - 1) ++ [l.getD (k - 1) z] := by
        obtain ⟨q, rfl⟩ : ∃ q, k = q + 1 := ⟨k - 1, by omega⟩; rw [Nat.add_sub_cancel, List.take_add_one, List.getElem?_eq_getElem (by omega), List.getD_eq_getElem?_getD, List.getElem?_eq_getElem (by omega)]; rfl
      have hlast : cf (l.getD (k - 1) z) c < 0 := by
        have h3 := h2 hk0
        have h4 : cf (l.getD (k - 1) z) c ≠ 0 := fun h => hne ⟨hk0, h⟩
        omega
      rw [ht] at hx hs1; rcases List.mem_append.1 hx with hx | hx
      · exact O.trans _ _ _ ((List.pairwise_append.1 hs1).2.2 x hx _ (List.mem_singleton_self _)) hlast
      · rw [List.mem_singleton.1 hx]; exact hlast
    refine List.pairwise_append.2 ⟨hs1, List.pairwise_cons.2 ⟨hd, hs2⟩, fun x hx y hy => ?_⟩; rcases List.mem_cons.1 hy with rfl | hy
    · exact ht x hx
    · exact O.trans _ _ _ (ht x hx) (hd y hy)
theorem putF_mem (O : Ord cf) {z : α} {l : List α} {c x : α} : x ∈ putF cf z l c ↔ x ∈ l ∨ x = c := by
  have hle := posF_le cf z l c l.length; unfold putF; generalize posF cf z l c l.length = k at *; split
  · rename_i h
    have hm : c ∈ l := by
      rw [← O.eq0 _ _ h.2, List.getD_eq_getElem?_getD, List.getElem?_eq_getElem (by omega)]; exact List.getElem_mem _
    exact ⟨.inl, fun h => h.elim id (fun h => h ▸ hm)⟩
  · conv => rhs; rw [← List.take_append_drop k l]
    simp only [List.mem_append, List.mem_cons]; constructor
    · rintro (h | h | h)
      · exact .inl (.inl h)
      · exact .inr h
      · exact .inl (.inr h)
    · rintro ((h | h) | h)
      · exact .inl h
      · exact .inr (.inr h)
      · exact .inr (.inl h)
def ordF (cf : α → α → Int) (z : α) (ok : α → Bool) : List α → List α → List α
  | [], out => out
  | c :: l, out => ordF cf z ok l (if ok c then putF cf z out c else out)
theorem ordF_spec (O : Ord cf) (z : α) (ok : α → Bool) : ∀ (l out : List α), Up cf out → Up cf (ordF cf z ok l out) ∧ ∀ x, x ∈ ordF cf z ok l out ↔ x ∈ out ∨ (x ∈ l ∧ ok x = true)
  | [], out, h => ⟨h, fun x => by simp [ordF]⟩
  | c :: l, out, h => by
    simp only [ordF]
    by_cases hc : ok c = true
    · rw [if_pos hc]
      obtain ⟨h1, h2⟩ := ordF_spec O z ok l (putF cf z out c) (putF_up O h)
      refine ⟨h1, fun x => ?_⟩
      rw [h2 x, putF_mem O]
      constructor
      · rintro ((h | rfl) | h)
        · exact .inl h
        · exact .inr ⟨List.mem_cons_self .., hc⟩
        · exact .inr ⟨List.mem_cons_of_mem _ h.1, h.2⟩
      · rintro (h | ⟨h, h3⟩)
        · exact .inl (.inl h)
        · rcases List.mem_cons.1 h with rfl | h
          · exact .inl (.inr rfl)
          · exact .inr ⟨h, h3⟩
    · rw [if_neg hc]
      obtain ⟨h1, h2⟩ := ordF_spec O z ok l out h
      refine ⟨h1, fun x => ?_⟩
      rw [h2 x]
      constructor
      · rintro (h | h)
        · exact .inl h
        · exact .inr ⟨List.mem_cons_of_mem _ h.1, h.2⟩
      · rintro (h | ⟨h, h3⟩)
        · exact .inl h
        · rcases List.mem_cons.1 h with rfl | h
          · exact absurd h3 hc
          · exact .inr ⟨h, h3⟩
end Go.Limbs
namespace Go.Proofs.YtlkdkbdgnjcopaaGreat
open Go.Own
attribute [local irreducible] St Ops Go.Own.Fin Ok OkB OkN OkT OkL OkF
theorem cmp3_anti (a b : Int) : cmp3 b a = - cmp3 a b := by unfold cmp3; split <;> split <;> (try split) <;> omega
theorem cmp3_zero {a b : Int} : cmp3 a b = 0 ↔ a = b := by unfold cmp3; split <;> (try split) <;> constructor <;> intro h <;> omega
theorem cmp3_lt {a b : Int} : cmp3 a b < 0 ↔ a < b := by unfold cmp3; split <;> (try split) <;> constructor <;> intro h <;> omega
theorem cmpL_anti : ∀ xs ys : List Int, cmpL ys xs = - cmpL xs ys
  | [], [] => rfl
  | [], _ :: _ => rfl
  | _ :: _, [] => rfl
  | x :: xs, y :: ys => by
    simp only [cmpL]
    rw [cmp3_anti x y, cmpL_anti xs ys]
    by_cases h : cmp3 x y = 0
    · simp [h]
    · rw [if_pos h, if_pos (by omega)]
theorem cmpL_eq : ∀ {xs ys : List Int}, xs.length = ys.length → cmpL xs ys = 0 → xs = ys
  | [], [], _, _ => rfl
  | x :: xs, y :: ys, hl, h => by
    simp only [cmpL] at h
    by_cases h0 : cmp3 x y = 0
    · rw [if_neg (by omega)] at h
      rw [cmp3_zero.1 h0, cmpL_eq (by simpa using hl) h]
    · rw [if_pos h0] at h; exact absurd h h0
  | [], _ :: _, hl, _ => by simp at hl
  | _ :: _, [], hl, _ => by simp at hl
theorem cmpL_trans : ∀ {xs ys zs : List Int}, xs.length = ys.length → ys.length = zs.length → cmpL xs ys < 0 → cmpL ys zs < 0 → cmpL xs zs < 0
  | x :: xs, y :: ys, z :: zs, h1, h2, ha, hb => by
    simp only [cmpL] at ha hb ⊢
    by_cases h3 : cmp3 x y = 0
    · have e := cmp3_zero.1 h3
      subst e
      rw [if_neg (by omega)] at ha
      by_cases h4 : cmp3 x z = 0
      · rw [if_neg (by omega)] at hb ⊢
        exact cmpL_trans (by simpa using h1) (by simpa using h2) ha hb
      · rw [if_pos h4] at hb ⊢; exact hb
    · rw [if_pos h3] at ha
      have l1 := cmp3_lt.1 ha
      by_cases h4 : cmp3 y z = 0
      · have e := cmp3_zero.1 h4
        subst e
        rw [if_pos h3]; exact ha
      · rw [if_pos h4] at hb
        have l2 := cmp3_lt.1 hb
        have l3 : cmp3 x z < 0 := cmp3_lt.2 (by omega)
        rw [if_pos (by omega)]; exact l3
  | [], [], _, _, _, ha, _ => by simp [cmpL] at ha
  | [], _ :: _, _, h1, _, _, _ => by simp at h1
  | _ :: _, [], _, h1, _, _, _ => by simp at h1
  | _ :: _, _ :: _, [], _, h2, _, _ => by simp at h2
end Go.Proofs.YtlkdkbdgnjcopaaGreat
namespace Go.Own
open Go.RowKit
variable {X : Ctx} {L : AL} {B : BL} {ops : Array Oper} {K : Act → World → Prop} {r : Pl} {k : Kd}
  {x y z : Operand} {d : Nat} {t t2 t' : TypeId} {pos : String} {af : Array Edge} {g : Option (Nat × Bool)}
theorem YK {el n bytes gb m c q cq : Nat} {zv : Value} {kk : IntKind} {j : Int} {cs : List CT} (e p : Nat) (hg : gd ops L g = some true) (hx : ev L x = some (.ct (.ex (kh gb (p * n) q cq)))) (hi : bget B e = some (.rowx (kh gb 0 m c) el n cs)) (hy : ev L y = some (.ct (.ex (.int kk j)))) (hT : SlcT X.P t el n bytes zv) (h0 : 0 ≤ j) (hj : j < q)
    (hn : Nat.blt d X.n = true) (h : Ops X ops r ((d, .loc e ((p + j.toNat) * n)) :: L) B K) : Ops X ops (.cons ⟨some d, .indexAddr t x y, t', pos, af, g⟩ k r) L B K :=
  X7 (s := .loc e ((p + j.toNat) * n)) hg rfl hn (fun a ρ w hI => by
    have h1 : a.eval x = kh gb (p * n) q cq := hI.evx hx
    have h2 : ρ e = kh gb 0 m c := (hI.ent e _ hi).1.1
    obtain ⟨nf, hi2, hs, _⟩ := hT.inf
    refine ⟨.pointer (some ⟨gb, (p + j.toNat) * n, none⟩), fun w' _ => ?_, gb, by rw [h2]; rfl, rfl⟩
    show (do pure (Next.value (← Instr.indexAt t (a.eval x) (a.eval y))) : Sem Next).run X.P w' = _
    rw [h1, hI.evx hy]
    refine Xf ?_
    rw [run_index hT.und hi2 h0 (by omega), hs, ← Nat.add_mul]) h
theorem St.nameS {c' : Code} {Q : Exit → Act → World → Prop} (dd i m : Nat) {el n : Nat} {cs : List CT} (hd : look L dd = some (.own i)) (hi : bget B i = some (.row el n cs)) (hl : cs.length = m * n) (hm : 0 < m) (hp : 0 < n)
    (h : ∀ gb c, m ≤ c → c ≤ maxLen → St X ((dd, .ct (.ex (kh gb 0 m c))) :: L) (bset B i (.rowx (kh gb 0 m c) el n cs)) c' Q) : St X L B c' Q := Fin.nameS dd i m hd hi hl hm hp h
theorem Is.cutOff {a : Act} {ρ : Nat → Value} {w : World} (hI : Is X L B a ρ w) {i gb m c el n : Nat} {cs : List CT} (q : Nat) (hi : bget B i = some (.rowx (kh gb 0 m c) el n cs)) (hl : cs.length = m * n) (hp : 0 < n) (hq : q ≤ m) :
    Is X (Own.killL i L) (bset B i (.rowx (kh gb 0 q c) el n (cs.take (q * n)))) a (upd ρ i (kh gb 0 q c)) w := by
  obtain ⟨hρ, vs, cur, hc, hlv, hgb, hmc, hcm, hcz, htk⟩ := hI.rowK hi hl hp; have hjn : q * n ≤ m * n := Nat.mul_le_mul_right _ hq
  have hW := Is.write (i := i) (v := kh gb 0 q c) (e' := .rowx (kh gb 0 q c) el n (cs.take (q * n))) (w' := w) (hI.killL i) hi J J J (Nat.le_refl _) (fun _ _ _ => rfl) (.inl (by rw [hρ]; rfl))
    (fun S' hk => ⟨rfl, q, vs.take (q * n), ⟨by rw [List.length_take, hlv]; omega, .inr ⟨gb, c, cur, rfl, Nat.zero_le _, hgb, by omega, hcm, hcz, by rw [← htk, List.take_take]; congr 1; omega⟩⟩, (hc.take _).mono hk⟩) (.inr (noN_killL i L)) (.inr J)
  exact hW.bext (Zq hi)
theorem Ops.cutOff {l : Pl} {gb m c el n : Nat} {cs cs' : List CT} (i q : Nat) (hi : bget B i = some (.rowx (kh gb 0 m c) el n cs)) (hl : cs.length = m * n) (hp : 0 < n) (hq : q ≤ m) (hcs : cs.take (q * n) = cs')
    (h : Ops X ops l (killL i L) (bset B i (.rowx (kh gb 0 q c) el n cs')) K) : Ops X ops l L B K := fun a ρ w hI => by
  subst hcs
  exact h a (upd ρ i (kh gb 0 q c)) w (hI.cutOff q hi hl hp hq)
theorem stEX {α : Type} {n i j el : Nat} {v0 : Value} {l : List α} (f : α → List CT) (c : α) (hf : ∀ a, (f a).length = n) (hg : gd ops L g = some true) (hx : ev L x = some (.loc i (j * n))) (hi : bget B i = some (.rowx v0 el n ((l.map f).flatten))) (hy : ev L y = some (.ct (.fr (aggT (f c))))) (ho : ones (f c) = true) (hj : j < l.length) (hsz : (X.P.info? t).map (·.size) = some n)
    (h : Ops X ops r L (bset B i (.rowx v0 el n (((l.set j c).map f).flatten))) K) : Ops X ops (.cons ⟨none, .store t x y, t', pos, af, g⟩ .any r) L B K :=
  Ops.stNA hg hx hi hy ho (by rw [hsz, hf]) (by show j * n + (f c).length ≤ _; rw [hf]; show _ ≤ (l.map f).flatten.length; rw [el_len hf, ← Nat.succ_mul]; exact Nat.mul_le_mul_right _ hj) (by
    have : (Ent.rowx v0 el n ((l.map f).flatten)).putc (j * n) (f c) = .rowx v0 el n (((l.set j c).map f).flatten) := by rw [← el_put hf c hj]; rfl
    rw [this]; exact h)
end Go.Own
namespace Go.Own
open Go.RowKit
theorem run_getMap {P : Program} {w : World} {r : Nat} {es : Array MapEntry} {clock : Nat} (h : w.heap[r]? = some (.map es clock)) : (getObj r).run P w = .ok (.map es clock) w := by simp [getObj, Sem.run, h]
theorem run_setMap {P : Program} {w : World} {r : Nat} {es : Array MapEntry} {clock : Nat} (o : Obj) (h : w.heap[r]? = some (.map es clock)) : (setObj r o).run P w = .ok () { w with heap := w.heap.setIfInBounds r o } := by simp [setObj, Sem.run, h]
structure KeyT (P : Program) (t : TypeId) {κ : Type} [DecidableEq κ] (enc : κ → Value) : Prop where
  now : ∀ (l : List MapEntry) (i : Nat) (a : κ) (D : TypeDesc), P.underlying t = some D → l ≠ [] → (∀ e ∈ l, ∃ b, e.key = enc b) → Instr.findNow D (enc a) l i = none
  und : ∃ D, P.underlying t = some D
  eq : ∀ (a b : κ) (w : World), (Op.equal t (enc a) (enc b)).run P w = .ok (decide (a = b)) w
  ck : ∀ (e : Bool) (a : κ) (w : World), (Instr.checkKey e 10000 t (enc a)).run P w = .ok () w
  sb : ∀ a : κ, Instr.sameBits 10000 (enc a) (enc a) = true
section
variable {κ β : Type} [DecidableEq κ]
def ins : List (κ × β) → κ → β → List (κ × β)
  | [], a, b => [(a, b)]
  | (k, v) :: l, a, b => if a = k then (a, b) :: l else (k, v) :: ins l a b
def look1 : List (κ × β) → κ → Option β
  | [], _ => none
  | (k, v) :: l, a => if a = k then some v else look1 l a
theorem look1_ins (l : List (κ × β)) (a : κ) (b : β) (c : κ) : look1 (ins l a b) c = if c = a then some b else look1 l c := by
  induction l with
  | nil => simp [ins, look1]
  | cons p l ih =>
    obtain ⟨k, v⟩ := p; simp only [ins]; by_cases h : a = k
    · subst h; simp only [if_true, look1]; by_cases h2 : c = a
      · simp [h2]
      · simp [h2]
    · rw [if_neg h]; simp only [look1, ih]; by_cases h2 : c = k
      · subst h2; simp [Ne.symm h]
      · simp [h2]
def idx1 : List (κ × β) → κ → Option Nat
  | [], _ => none
  | (k, _) :: l, a => if a = k then some 0 else (idx1 l a).map (· + 1)
theorem look1_idx (a : κ) : ∀ al : List (κ × β), look1 al a = (idx1 al a).bind fun j => (al[j]?).map (·.2)
  | [] => rfl
  | (k, v) :: l => by
    simp only [look1, idx1]
    by_cases h : a = k
    · simp [h]
    · rw [if_neg h, if_neg h, look1_idx a l]
      cases idx1 l a <;> simp
theorem ins_idx (a : κ) (b : β) : ∀ al : List (κ × β), ins al a b = match idx1 al a with | none => al ++ [(a, b)] | some j => al.set j (a, b)
  | [] => rfl
  | (k, v) :: l => by
    simp only [ins, idx1]
    by_cases h : a = k
    · simp [h]
    · rw [if_neg h, if_neg h, ins_idx a b l]
      cases idx1 l a <;> simp
theorem idx1_key (a : κ) : ∀ (al : List (κ × β)) (j : Nat), idx1 al a = some j → ∃ b, al[j]? = some (a, b)
  | [], _, h => by cases h
  | (k, v) :: l, j, h => by
    simp only [idx1] at h
    by_cases h1 : a = k
    · rw [if_pos h1] at h; injection h with h; subst h; exact ⟨v, by simp [h1]⟩
    · rw [if_neg h1] at h
      obtain ⟨q, hq, rfl⟩ := Option.map_eq_some_iff.1 h
      obtain ⟨b, hb⟩ := idx1_key a l q hq
      exact ⟨b, by simpa using hb⟩
def kvs (enc : κ → Value) (cv : β → CT) (al : List (κ × β)) : List (Value × CT) := al.map fun p => (enc p.1, cv p.2)
variable {P : Program} {kt : TypeId} {enc : κ → Value} {cv : β → CT}
theorem run_ask (h : KeyT P kt enc) (a : κ) (w : World) : ∀ (al : List (κ × β)) (es : List MapEntry) (i : Nat), es.map (·.key) = al.map (fun p => enc p.1) →
    (Instr.findAsking kt (enc a) es i).run P w = .ok ((idx1 al a).bind fun j => (es[j]?).map fun e => (i + j, e.val)) w
  | [], [], i, _ => rfl
  | [], _ :: _, _, h0 => by simp at h0
  | _ :: _, [], _, h0 => by simp at h0
  | (k, v) :: al, e :: es, i, h0 => by
    simp only [List.map_cons, List.cons.injEq] at h0
    obtain ⟨h1, h2⟩ := h0
    have he := h.eq a k w
    rw [← h1] at he
    have ih := run_ask h a w al es (i + 1) h2
    simp only [Instr.findAsking, Sem.run_bind, he, Result.andThen_ok, idx1]
    by_cases hak : a = k
    · simp [hak]
    · rw [if_neg hak]
      simp only [hak, decide_false, Bool.false_eq_true, if_false, ih]
      cases idx1 al a with
      | none => rfl
      | some j =>
        simp only [Option.map_some, Option.bind_some, List.getElem?_cons_succ]
        congr 2
        funext e
        congr 1
        omega
theorem run_find (h : KeyT P kt enc) (a : κ) (w : World) (al : List (κ × β)) (es : List MapEntry) (h0 : es.map (·.key) = al.map (fun p => enc p.1)) :
    (Instr.findKey kt (enc a) es).run P w = .ok ((idx1 al a).bind fun j => (es[j]?).map fun e => (j, e.val)) w := by
  obtain ⟨D, hD⟩ := h.und; have g1 := run_ask h a w al es 0 h0; simp only [Nat.zero_add] at g1
  cases es with
  | nil =>
    have : al = [] := by cases al with
      | nil => rfl
      | cons p l => simp at h0
    subst this; simp [Instr.findKey, run_underlying hD, Instr.findNow, idx1]
  | cons e es =>
    have := h.now (e :: es) 0 a D hD (by simp) (fun e' he => by
      have hm : e'.key ∈ (e :: es).map (·.key) := List.mem_map_of_mem he; rw [h0] at hm; obtain ⟨p, _, hp⟩ := List.mem_map.1 hm
      exact ⟨p.1, hp.symm⟩)
    simp only [Instr.findKey, Sem.run_bind, run_underlying hD, Result.andThen_ok, this]; exact g1
end
section
variable {X : Ctx} {L : AL} {B : BL} {ops : Array Oper} {K : Act → World → Prop} {r : Pl} {k : Kd}
  {x y z : Operand} {d : Nat} {t t2 t' : TypeId} {pos : String} {af : Array Edge} {g : Option (Nat × Bool)}
def KeyIs (X : Ctx) (L : AL) (B : BL) (y : Operand) (v : Value) : Prop := ∀ a ρ w, Is X L B a ρ w → a.eval y = v
theorem cells_exact {S : BSet} {w : World} : ∀ {us vs : List Value}, cells S w (us.map CT.ex) vs → vs = us
  | [], [], _ => rfl
  | u :: us, v :: vs, ⟨h1, h2⟩ => by
    have : v = u := h1
    rw [this, cells_exact h2]
  | [], _ :: _, h => h.elim
  | _ :: _, [], h => h.elim
theorem KeyIs.agg {us : List Value} (h : ev L y = some (.ct (.fr (aggT (us.map CT.ex))))) : KeyIs X L B y (.agg us.toArray) := fun a ρ w hI => by
  obtain ⟨vs, h1, h2⟩ := hI.ev h
  rw [h1, cells_exact h2]
theorem Fin.nameM (dd i : Nat) {kv : List (Value × CT)} (hd : look L dd = some (.own i)) (hi : bget B i = some (.mp kv)) (h : ∀ v : Value, v.oneCell' = true → Fin X ((dd, .ct (.ex v)) :: L) (bset B i (.mpx v kv)) K) : Fin X L B K := fun a ρ w hI => by
  have h1 : a.tmps.getD dd undef = ρ i := hI.slot dd _ hd
  have h2 := (hI.ent i _ hi).1
  exact h (ρ i) (by obtain ⟨q, hq, _⟩ := h2; rw [hq]; rfl) a ρ w ((hI.retype (e' := .mpx (ρ i) kv) hi ⟨rfl, h2⟩ rfl).slotx (s := .ct (.ex (ρ i))) h1)
theorem Ops.mkMap (i : Nat) (hk : k.mk = true) (hg : gd ops L g = some true) (hN : noN i L = true) (hB : bget B i = none) (hn : Nat.blt d X.n = true)
    (h : ∀ v : Value, v.oneCell' = true → Ops X ops r ((d, .ct (.ex v)) :: (d, .own i) :: L) ((i, .mpx v []) :: B) K) : Ops X ops (.cons ⟨some d, .makeMap t none, t', pos, af, g⟩ k r) L B K :=
  Ops.mkE (e := .mp []) hk hg rfl hn hN hB (fun a ρ w hI => by
    refine ⟨.map (some w.heap.size), w.alloc (.map #[] 0), ?_, YZ _ _, fun q hq => ?_, fun S' hk => ⟨w.heap.size, rfl, #[], 0, heap_alloc_new w _, rfl, trivial, ⟨fun _ h => (nomatch h), List.Pairwise.nil⟩⟩⟩
    · show (do pure (Next.value (← Instr.makeMap t none)) : Sem Next).run X.P w = _
      refine Xf ?_
      simp [Instr.makeMap]
    · injection hq with hq; subst hq; exact Nat.le_refl _)
    (Fin.nameM d i (Xc ..) (XV ..) fun v hv => by
      have hbs : bset ((i, Ent.mp []) :: B) i (.mpx v []) = (i, .mpx v []) :: B := by simp only [bset, Nat.beq_refl]
      rw [hbs]; exact h v hv)
variable {κ β : Type} [DecidableEq κ] {kt et mt : TypeId} {enc : κ → Value} {cv : β → CT}
omit [DecidableEq κ] in
theorem kvs_keys {al : List (κ × β)} {es : Array MapEntry} (h : es.toList.map (·.key) = (kvs enc cv al).map (·.1)) : es.toList.map (·.key) = al.map (fun p => enc p.1) := by rw [h]; simp [kvs]
theorem run_lookup {P : Program} {S : BSet} {w : World} {gb : Nat} {al : List (κ × β)} {zv : Value} (z0 : β) (ok : Bool) (a : κ) (hm : P.underlying mt = some (.map kt et)) (hz : ∀ w, (zeroValue et).run P w = .ok zv w) (hz0 : (cv z0).p S w zv) (hK : KeyT P kt enc)
    (hM : mapAt S w gb (kvs enc cv al)) : ∃ v, (cv ((look1 al a).getD z0)).p S w v ∧ ∀ w' : World, w'.heap[gb]? = w.heap[gb]? → (Instr.lookup mt (.map (some gb)) (enc a) ok).run P w' = .ok (if ok then .tuple #[v, .bool (look1 al a).isSome] else v) w' := by
  obtain ⟨es, clock, h1, h2, h3, _⟩ := hM
  have hf := fun w => run_find hK a w al es.toList (kvs_keys h2)
  rw [look1_idx]
  cases e : idx1 al a with
  | none =>
    refine ⟨zv, hz0, fun w' hw => ?_⟩; have hget : (getObj gb).run P w' = .ok (.map es clock) w' := run_getMap (hw.trans h1); rw [e] at hf; simp only [Option.bind_none] at hf; simp only [Instr.lookup, Sem.run_bind, run_underlying hm, Result.andThen_ok, hget, Sem.run_pure, hK.ck, hf]
    cases ok <;> simp [hz]
  | some j =>
    obtain ⟨b, hb⟩ := idx1_key a al j e
    have hc : ((kvs enc cv al).map (·.2))[j]? = some (cv b) := by
      rw [kvs, List.map_map, List.getElem?_map, hb]; rfl
    obtain ⟨v, d1, d2⟩ := h3.get hc; rw [List.getElem?_map] at d1; obtain ⟨en, he, rfl⟩ := Option.map_eq_some_iff.1 d1; refine ⟨en.val, by simpa [hb] using d2, fun w' hw => ?_⟩; have hget : (getObj gb).run P w' = .ok (.map es clock) w' := run_getMap (hw.trans h1); rw [e] at hf; simp only [Option.bind_some, he, Option.map_some] at hf; simp only [Instr.lookup, Sem.run_bind, run_underlying hm, Result.andThen_ok, hget, Sem.run_pure, hK.ck, hf]
    cases ok <;> simp [hb]
theorem Ops.lookM {i : Nat} {hv zv : Value} {al : List (κ × β)} (z0 : β) (ka : κ) (hk : k.rd = true) (hg : gd ops L g = some true) (hx : ev L x = some (.ct (.ex hv))) (hi : bget B i = some (.mpx hv (kvs enc cv al))) (hy : KeyIs X L B y (enc ka)) (hm : X.P.underlying mt = some (.map kt et)) (hz : ∀ w, (zeroValue et).run X.P w = .ok zv w) (hz0 : ∀ S w, (cv z0).p S w zv) (hK : KeyT X.P kt enc) (hn : Nat.blt d X.n = true)
    (h : Ops X ops r ((d, .ct (cv ((look1 al ka).getD z0))) :: L) B K) : Ops X ops (.cons ⟨some d, .lookup mt x y false, t', pos, af, g⟩ k r) L B K :=
  Ops.rd (s := .ct (cv ((look1 al ka).getD z0))) hk hg rfl hn (fun a ρ w hI => by
    obtain ⟨h1, gb, h2, h3⟩ := (hI.ent i _ hi).1
    obtain ⟨v, c1, c2⟩ := run_lookup z0 false ka hm hz (hz0 (Sof X B ρ) w) hK h3
    refine ⟨v, fun w' hb => ?_, c1⟩
    show (do pure (Next.value (← Instr.lookup mt (a.eval x) (a.eval y) false)) : Sem Next).run X.P w' = _
    rw [hI.evx hx, ← h1, h2, hy a ρ w hI]
    obtain ⟨es, clock, h4, _⟩ := h3
    exact Xf (c2 w' (hb.block gb (ZK h4)))) h
theorem Ops.lookM2 {i : Nat} {hv zv : Value} {al : List (κ × β)} (z0 : β) (ka : κ) (hk : k.rd = true) (hg : gd ops L g = some true) (hx : ev L x = some (.ct (.ex hv))) (hi : bget B i = some (.mpx hv (kvs enc cv al))) (hy : KeyIs X L B y (enc ka)) (hm : X.P.underlying mt = some (.map kt et)) (hz : ∀ w, (zeroValue et).run X.P w = .ok zv w) (hz0 : ∀ S w, (cv z0).p S w zv) (hK : KeyT X.P kt enc) (hn : Nat.blt d X.n = true)
    (h : Ops X ops r ((d, .ct (.fr (tupT [cv ((look1 al ka).getD z0), .ex (.bool (look1 al ka).isSome)]))) :: L) B K) : Ops X ops (.cons ⟨some d, .lookup mt x y true, t', pos, af, g⟩ k r) L B K :=
  Ops.rd (s := .ct (.fr (tupT [cv ((look1 al ka).getD z0), .ex (.bool (look1 al ka).isSome)]))) hk hg rfl hn (fun a ρ w hI => by
    obtain ⟨h1, gb, h2, h3⟩ := (hI.ent i _ hi).1
    obtain ⟨v, c1, c2⟩ := run_lookup z0 true ka hm hz (hz0 (Sof X B ρ) w) hK h3
    refine ⟨.tuple #[v, .bool (look1 al ka).isSome], fun w' hb => ?_, [v, .bool (look1 al ka).isSome], rfl, c1, rfl, trivial⟩
    show (do pure (Next.value (← Instr.lookup mt (a.eval x) (a.eval y) true)) : Sem Next).run X.P w' = _
    rw [hI.evx hx, ← h1, h2, hy a ρ w hI]
    obtain ⟨es, clock, h4, _⟩ := h3
    exact Xf (c2 w' (hb.block gb (ZK h4)))) h
theorem Ops.lookF {zv : Value} {al : List (κ × β)} (z0 : β) (ka : κ) (hk : k.rd = true) (hg : gd ops L g = some true) (hx : ev L x = some (.ct (.fr (mapT (kvs enc cv al))))) (hy : KeyIs X L B y (enc ka)) (hm : X.P.underlying mt = some (.map kt et)) (hz : ∀ w, (zeroValue et).run X.P w = .ok zv w) (hz0 : ∀ S w, (cv z0).p S w zv) (hK : KeyT X.P kt enc) (hn : Nat.blt d X.n = true)
    (h : Ops X ops r ((d, .ct (cv ((look1 al ka).getD z0))) :: L) B K) : Ops X ops (.cons ⟨some d, .lookup mt x y false, t', pos, af, g⟩ k r) L B K :=
  Ops.rd (s := .ct (cv ((look1 al ka).getD z0))) hk hg rfl hn (fun a ρ w hI => by
    obtain ⟨gb, h1, _, h2, h3⟩ := hI.ev hx
    obtain ⟨v, c1, c2⟩ := run_lookup z0 false ka hm hz (hz0 (Sof X B ρ) w) hK h3
    refine ⟨v, fun w' hb => ?_, c1⟩
    show (do pure (Next.value (← Instr.lookup mt (a.eval x) (a.eval y) false)) : Sem Next).run X.P w' = _
    rw [h1, hy a ρ w hI]
    exact Xf (c2 w' (hb.block gb h2))) h
theorem run_set {P : Program} {S : BSet} {w : World} {gb : Nat} {al : List (κ × β)} {v : Value} (a : κ) (b : β) (hm : P.underlying mt = some (.map kt et)) (hK : KeyT P kt enc) (hM : mapAt S w gb (kvs enc cv al)) (hv : (cv b).p S w v) :
    ∃ (es : Array MapEntry) (clock : Nat), (Instr.mapUpdate mt (.map (some gb)) (enc a) v).run P w = .ok () { w with heap := w.heap.setIfInBounds gb (.map es clock) } ∧ es.toList.map (·.key) = (kvs enc cv (ins al a b)).map (·.1) ∧ cells S w ((kvs enc cv (ins al a b)).map (·.2)) (es.toList.map (·.val)) ∧ Stamps es clock := by
  obtain ⟨es, clock, h1, h2, h3, hS1, hS2⟩ := hM; have hf := run_find hK a w al es.toList (kvs_keys h2); have hget : (getObj gb).run P w = .ok (.map es clock) w := run_getMap h1
  have hset : ∀ o, (setObj gb o).run P w = .ok () { w with heap := w.heap.setIfInBounds gb o } := fun o => run_setMap o h1
  rw [ins_idx]
  cases e : idx1 al a with
  | none =>
    rw [e] at hf; simp only [Option.bind_none] at hf; refine ⟨es.push { key := enc a, val := v, born := clock }, clock + 1, ?_, ?_, ?_, ?_⟩
    · simp only [Instr.mapUpdate, Sem.run_bind, run_underlying hm, Result.andThen_ok, hget, hK.ck, hf]; exact hset _
    · simp [kvs, kvs_keys h2]
    · simp only [kvs, List.map_append, List.map_cons, List.map_nil, Array.toList_push]; refine cells.append (by simpa [kvs] using h3) ⟨hv, trivial⟩
    · constructor
      · intro x hx; rw [Array.toList_push, List.mem_append, List.mem_singleton] at hx; rcases hx with hx | rfl
        · exact Nat.lt_succ_of_lt (hS1 x hx)
        · exact Nat.lt_succ_self _
      · rw [Array.toList_push, List.map_append, List.nodup_append]; refine ⟨hS2, by simp, fun x hx y hy hxy => ?_⟩; rw [List.map_singleton, List.mem_singleton] at hy; obtain ⟨z, hz, rfl⟩ := List.mem_map.1 hx; have := hS1 z hz; rw [hxy, hy] at this; exact Nat.lt_irrefl _ this
  | some j =>
    obtain ⟨b0, hb⟩ := idx1_key a al j e; have hj : j < al.length := (List.getElem?_eq_some_iff.1 hb).1; have hk0 := congrArg (fun l => l[j]?) (kvs_keys h2); simp only [List.getElem?_map, hb, Option.map_some] at hk0; obtain ⟨en, he, hke⟩ := Option.map_eq_some_iff.1 hk0; rw [e] at hf; simp only [Option.bind_some, he, Option.map_some] at hf
    have hes : es[j]? = some en := by rw [← Array.getElem?_toList]; exact he
    have hje : j < es.size := (Array.getElem?_eq_some_iff.1 hes).1
    have hb0 : (es.toList.modify j fun e => { e with key := enc a, val := v }).map (·.born) = es.toList.map (·.born) := by
      apply List.ext_getElem?
      intro q; simp only [List.getElem?_map, List.getElem?_modify]; by_cases hqj : j = q
      · subst hqj; simp [he]
      · simp [hqj]
    refine ⟨es.modify j fun e => { e with key := enc a, val := v }, clock, ?_, ?_, ?_, ?_⟩
    · simp only [Instr.mapUpdate, Sem.run_bind, run_underlying hm, Result.andThen_ok, hget, hK.ck, hf, hes, Option.map_some, Option.getD_some, hke, Instr.keyThatStays, hK.sb, if_true, Sem.run_pure]; exact hset _
    · have hT := kvs_keys h2; rw [Array.toList_modify]
      apply List.ext_getElem?
      intro q; have hq := congrArg (fun l => l[q]?) hT; simp only [List.getElem?_map] at hq; simp only [kvs, List.map_set, List.map_map, List.getElem?_map, List.getElem?_set, List.getElem?_modify]; by_cases hqj : j = q
      · subst hqj; simp [he, hj]
      · simp only [hqj, if_false, List.getElem?_map]
        simpa [Function.comp_def] using hq
    · have h4 := h3.set (i := j) hv; rw [Array.toList_modify]
      have e1 : (kvs enc cv (al.set j (a, b))).map (·.2) = ((kvs enc cv al).map (·.2)).set j (cv b) := by simp [kvs, List.map_set]
      have e2 : (es.toList.modify j fun e => { e with key := enc a, val := v }).map (·.val) = (es.toList.map (·.val)).set j v := by
        apply List.ext_getElem?
        intro q; simp only [List.getElem?_map, List.getElem?_modify, List.getElem?_set, List.length_map, Array.length_toList]; by_cases hqj : j = q
        · subst hqj; simp [he, hje]
        · simp [hqj]
      show cells S w ((kvs enc cv (al.set j (a, b))).map (·.2)) _; rw [e1, e2]; exact h4
    · rw [← Array.toList_modify] at hb0; refine ⟨fun x hx => ?_, by rw [hb0]; exact hS2⟩
      have : x.born ∈ es.toList.map (·.born) := by rw [← hb0]; exact List.mem_map_of_mem hx
      obtain ⟨y, hy, e⟩ := List.mem_map.1 this; rw [← e]; exact hS1 y hy
theorem XJ {i : Nat} {hv : Value} {al : List (κ × β)} (ka : κ) (b : β) (hg : gd ops L g = some true) (hx : ev L x = some (.ct (.ex hv))) (hi : bget B i = some (.mpx hv (kvs enc cv al))) (hy : KeyIs X L B y (enc ka)) (hz : ev L z = some (.ct (cv b))) (hm : X.P.underlying mt = some (.map kt et)) (hK : KeyT X.P kt enc)
    (h : Ops X ops r L (bset B i (.mpx hv (kvs enc cv (ins al ka b)))) K) : Ops X ops (.cons ⟨none, .mapUpdate mt x y z, t', pos, af, g⟩ .any r) L B K := fun a ρ w hI => by
  show wpO _ _ _ _ _ _
  unfold wpO
  rw [if_pos (Zu (o := ⟨none, _, t', pos, af, g⟩) hI hg)]
  obtain ⟨h1, gb, h2, h3⟩ := (hI.ent i _ hi).1
  obtain ⟨es, clock, hrun, hk', hc', hS'⟩ := run_set ka b hm hK h3 (hI.ev hz)
  have hlt : gb < w.heap.size := by obtain ⟨_, _, h4, _⟩ := h3; exact ZK h4
  have hrun2 : (execOp a.eval ⟨none, .mapUpdate mt x y z, t', pos, af, g⟩).run X.P w = .ok .skip { w with heap := w.heap.setIfInBounds gb (.map es clock) } := by
    show (do Instr.mapUpdate mt (a.eval x) (a.eval y) (a.eval z); pure Next.skip : Sem Next).run X.P w = _; rw [hI.evx hx, ← h1, h2, hy a ρ w hI]; simp [hrun]
  unfold Oper.wp; rw [hrun2]; show wpX _ _ _ _ (a.put none undef) _; rw [put_none]
  have hW := Is.write (v := ρ i) (e' := .mpx hv (kvs enc cv (ins al ka b))) (w' := { w with heap := w.heap.setIfInBounds gb (.map es clock) }) hI hi J J J (by simp)
    (fun q hq hne => by
      have : gb ≠ q := fun e => hne (by rw [h2, ← e]; rfl)
      simp [Array.getElem?_setIfInBounds, this]) (.inl J)
    (fun S' hk => ⟨h1, gb, h2, es, clock, by simp [Array.getElem?_setIfInBounds, hlt], hk', hc'.mono hk, hS'⟩) (.inl J) (.inl ⟨rfl, rfl⟩)
  exact h a _ _ (hW.bext (Zq hi))
theorem Fin.frzM (i j o : Nat) {v : Value} {tt : Nat} {kv : List (Value × CT)} {ds : List CT} (hi : bget B i = some (.mpx v kv)) (hj : bget (bdel B i) j = some (.box tt ds)) (ho : ds[o]? = some (.ex v)) (hS : okFix X i)
    (h : Fin X L (bset (bdel B i) j (.box tt (ds.set o (.fr (mapT kv))))) K) (hf : noFix X i = true := by rfl) : Fin X L B K := fun a ρ w hI => by
  obtain ⟨h2, h3⟩ := (hI.ent i _ hi).1
  have hv : (mapT kv).p (Sof X (bdel B i) ρ) w (ρ i) := hI.frozen_val (e2 := .mp kv) hi rfl h3 (hI.okFix hi hS)
  rw [h2] at hv
  have hD := hI.dropB i hf
  obtain ⟨gb, us, h4, h5, h6⟩ := (hD.ent j _ hj).1
  have hu : us[o]? = some v := by
    obtain ⟨u, hu1, hu2⟩ := h6.get ho; have : u = v := hu2; rw [← this]; exact hu1
  have hset : us.set o v = us := by
    apply List.ext_getElem?
    intro q; rw [List.getElem?_set]; split
    · rename_i hq; subst hq
      rw [hu]; split
      · rfl
      · rename_i hlt; exact absurd (List.getElem?_eq_some_iff.1 hu).1 hlt
    · rfl
  refine h a ρ w (hD.retype hj ⟨gb, us, h4, h5, ?_⟩ rfl); rw [← hset]; exact h6.set hv
theorem St.frzM {c : Code} {Q : Exit → Act → World → Prop} (i j o : Nat) {v : Value} {tt : Nat} {kv : List (Value × CT)} {ds : List CT} (hi : bget B i = some (.mpx v kv)) (hj : bget (bdel B i) j = some (.box tt ds)) (ho : ds[o]? = some (.ex v)) (hS : okFix X i)
    (h : St X L (bset (bdel B i) j (.box tt (ds.set o (.fr (mapT kv))))) c Q) (hf : noFix X i = true := by rfl) : St X L B c Q := Fin.frzM i j o hi hj ho hS h hf
end
end Go.Own
namespace Go.Proofs.YtlkdkbdgnjcopaaGreat
open Go.Own Go.Limbs
structure Tk where
  va : Int
  ds : Fin 4294967296
  pr : Int
deriving DecidableEq
def trOf (r : Rs) : Tk := ⟨r.va, r.dst, r.pr⟩
def tkI (t : Tk) : List Int := [t.va, (t.ds.val : Int), t.pr]
def cmpT (a b : Tk) : Int := cmpL (tkI a) (tkI b)
theorem ordT : Ord cmpT where
  anti a b := cmpL_anti _ _
  eq0 a b h := by
    have := cmpL_eq (xs := tkI a) (ys := tkI b) J h; obtain ⟨a1, a2, a3⟩ := a; obtain ⟨b1, b2, b3⟩ := b; simp only [tkI, List.cons.injEq, and_true, Int.ofNat_inj, Fin.val_inj] at this; obtain ⟨h1, h2, h3⟩ := this; rw [h1, h2, h3]
  trans a b c := cmpL_trans (xs := tkI a) (ys := tkI b) (zs := tkI c) J J
def usR (r : Rs) : Bool := !r.db && okR r
def fiR (r : Rs) : Bool := r.an && (decide (r.ki ≠ 1) && usR r)
def endS (e : Int) (r : Rs) : Int := if (e = 0 ∨ r.tt < e) ∧ fiR r = true then r.tt else e
def endF (l : List Rs) : Int := l.foldl endS 0
abbrev Sp := Int × Int
abbrev AdM := List (Sp × Fin 4294967296)
abbrev StM := List (Sp × Int)
def lookS (e : Int) (m : AdM × StM) (r : Rs) : AdM × StM :=
  if usR r = false ∨ (0 < e ∧ e < r.tt) then m
  else if r.an = false then (m.1, ins m.2 (r.fl, r.tt) (max ((look1 m.2 (r.fl, r.tt)).getD 0) 1))
  else if (look1 m.2 (r.fl, r.tt)).getD 0 ≤ 1 then (ins m.1 (r.fl, r.tt) r.fr, ins m.2 (r.fl, r.tt) 2)
  else if (look1 m.2 (r.fl, r.tt)).getD 0 = 2 ∧ (look1 m.1 (r.fl, r.tt)).getD 0 ≠ r.fr then (ins m.1 (r.fl, r.tt) 0, ins m.2 (r.fl, r.tt) 3)
  else m
def lookG (l : List Rs) : AdM × StM := l.foldl (lookS (endF l)) ([], [])
def hasS (m : StM) (fl tt : Int) : Bool := decide ((look1 m (fl, tt)).getD 0 = 2) || decide ((look1 m (fl, tt)).getD 0 = 1)
def pathG (m : AdM × StM) (fl : Int) : Nat → Int → List (Fin 4294967296)
  | 0, _ => []
  | k + 1, tt => if hasS m.2 fl tt then (look1 m.1 (fl, tt)).getD 0 :: pathG m fl k (tt + 1) else []
def pathF (l : List Rs) (fl : Int) : List (Fin 4294967296) := pathG (lookG l) fl 256 1
theorem lookG_keys (l : List Rs) : ∀ s v, look1 (lookG l).2 s = some v → 1 ≤ v ∧ ∃ r ∈ l, usR r = true ∧ s = (r.fl, r.tt) := by
  have key : ∀ (q : List Rs) (m : AdM × StM), (∀ r ∈ q, r ∈ l) → (∀ s v, look1 m.2 s = some v → 1 ≤ v ∧ ∃ r ∈ l, usR r = true ∧ s = (r.fl, r.tt)) → ∀ s v, look1 (q.foldl (lookS (endF l)) m).2 s = some v → 1 ≤ v ∧ ∃ r ∈ l, usR r = true ∧ s = (r.fl, r.tt) := by
    intro q
    induction q with
    | nil => intro m _ h; exact h
    | cons r q ih =>
      intro m hq hm
      refine ih (lookS (endF l) m r) (fun x hx => hq x (List.mem_cons_of_mem _ hx)) ?_
      have hr := hq r (List.mem_cons_self ..); intro s v hs; unfold lookS at hs; split at hs
      · exact hm s v hs
      · rename_i hu
        have hus : usR r = true := by
          cases h : usR r with
          | true => rfl
          | false => exact absurd (.inl h) hu
        have fin : ∀ w : Int, 1 ≤ w → look1 (ins m.2 (r.fl, r.tt) w) s = some v → 1 ≤ v ∧ ∃ r ∈ l, usR r = true ∧ s = (r.fl, r.tt) := fun w hw h => by
          rw [look1_ins] at h; split at h
          · rename_i e; injection h with h; exact ⟨by omega, r, hr, hus, e⟩
          · exact hm s v h
        split at hs
        · exact fin _ (by omega) hs
        · split at hs
          · exact fin 2 (by decide) hs
          · split at hs
            · exact fin 3 (by decide) hs
            · exact hm s v hs
  exact key l ([], []) (fun _ h => h) (fun s v h => by cases h)
abbrev Wr := Fin 4294967296 × Fin 4294967296
def wiresG : Fin 4294967296 → List (Fin 4294967296) → Bool → List Wr
  | _, [], _ => []
  | p, a :: l, first => (if a ≠ 0 ∧ (first = true ∨ p ≠ 0) then [(p, a)] else []) ++ wiresG a l false
def wayF (l : List Rs) (r : Rs) : List Wr :=
  if usR r = false then []
  else
    let p := pathF (((sd cmpR (l.filter okR)).filter fun x => decide (trOf x = trOf r))) r.fl
    if r.tt ≤ p.length then wiresG 0 (p.take r.tt.toNat) true
    else if (p.length : Int) < r.tt - 1 ∨ r.an = true then []
    else wiresG 0 p true
end Go.Proofs.YtlkdkbdgnjcopaaGreat
namespace Go.Proofs.YtlkdkbdgnjcopaaGreat
open Go.Own
attribute [local irreducible] St Ops Go.Own.Fin Ok OkB OkN
theorem sBytes : SlcT Tryz.prog 22 5 1 1 (.int .u8 0) := SlcT.of Tryz.underlying22 (by kernel_rfl) rfl (by decide)
theorem lBytes : Ld1 Tryz.prog 22 := Ld1.of _ Tryz.underlying22 rfl
theorem lU8 : Ld1 Tryz.prog 5 := Ld1.of _ Tryz.underlying5 rfl
theorem uU8 : Tryz.prog.underlying 5 = some (.int .u8) := Tryz.underlying5
theorem uInt : Tryz.prog.underlying 3 = some (.int .i64) := Tryz.underlying3
theorem fC0 : fldInfo Tryz.prog 78 0 = some (0, some 1) := by kernel_rfl
theorem fC1 : fldInfo Tryz.prog 78 1 = some (1, some 1) := by kernel_rfl
theorem bCodes : bInfo Tryz.prog 78 = some (.agg #[.slice none 0 0, .int .i64 0], [(0, some 1), (1, some 1)]) := by kernel_rfl
abbrev bytesC (bs : List Int) : CT := .fr (sliceT 1 (bs.map fun b => [CT.ex (.int .u8 b)]))
abbrev codes (bs : List Int) (p : Nat) : List CT := [bytesC bs, intC p]
structure Bytes (bs : List Int) : Prop where
  lo : ∀ b ∈ bs, 0 ≤ b
  hi : ∀ b ∈ bs, b < 256
  len : bs.length ≤ 400
theorem bytes_at {bs : List Int} {j : Int} (h0 : 0 ≤ j) (h : j < (bs.length : Int)) : (bs.map fun b => [CT.ex (.int .u8 b)])[j.toNat]? = some [CT.ex (.int .u8 (bs.getD j.toNat 0))] := by
  have hl : j.toNat < bs.length := by omega
  rw [List.getElem?_map, List.getElem?_eq_getElem hl, List.getD_eq_getElem?_getD, List.getElem?_eq_getElem hl]; rfl
theorem Bytes.at {bs : List Int} (h : Bytes bs) (j : Nat) : 0 ≤ bs.getD j 0 ∧ bs.getD j 0 < 256 := by
  rw [List.getD_eq_getElem?_getD]
  cases e : bs[j]? with
  | none => simp
  | some b =>
    have := List.mem_of_getElem? e; exact ⟨h.lo b this, h.hi b this⟩
theorem goNext : InGo Tryz.prog 11 := InGo.of Tryz.func11 rfl (by decide)
set_option maxHeartbeats 2000000 in
theorem Next_ok (bs : List Int) (p : Nat) (n : Int) (h1 : 1 ≤ n) (h2 : n ≤ 256) (hb : Bytes bs) :
    OkB Tryz.prog 11 78 (codes bs p) [intC n] (fun q : Int × Nat => 0 ≤ q.1 ∧ q.1 < n) (fun q => intC q.1) (fun q => codes bs q.2) := by
  have hlen := hb.len
  refine OkB.enter Tryz.func11 J _ Tryz.ntmps11 J ?_
  intro S w g; refine Qw (Qx fun K hK => ?_); refine Qv J J J (Qj (hK _ _ (Qz (Qw (Qw ?_))))); clear hK K; refine Xw mixed 14 (.p 0 (.p 1 (.p 2 (.p 4 (.p 5 (.p 6 (.f 3 (.f 7 (.p 8 (.p 9 (.p 10 (.p 11 (.p 12 (.p 13 .done)))))))))))))) (by kernel_rfl) (fun K hK => ?_); refine Qq J J J (Xr J J J J (QV J J J fC1 J (Qq J J J (Xr J J J J (QV J J J fC0 J (QY J J J J J lInt J (QY J J J J J lBytes J (Qb J J sBytes.und (List.length_map ..) J (Qk igeq J J J J (Qq J J J (Q7 16 J (fun h => ?_) (fun h => ?_))))))))))))
  · refine Qy J J J (Qy J J J (QJ J J J J (Qj (hK _ _ (Qz (Qp J (Qw ?_))))))); clear hK K; refine Qx (fun K hK => ?_); refine Qv J J J (Qj (hK _ _ (Qz (Q0 (QZ ?_))))); clear hK K; refine Zv (0, p) [_] rfl (Qu J QQ) J J ⟨by show (0 : Int) ≤ 0; omega, by show (0 : Int) < n; omega⟩
  · refine Qq J J J (Qk ilss J J J J (QK J J J J (Qj (hK _ _ (Qz ?_))))); clear hK K; refine Q2 J (fun h' => ?_) (fun h' => ?_)
    · exact absurd h' (by omega)
    · refine Q1 (Qz (Qw ?_)); refine Xw mixed 12 (.p 0 (.p 1 (.p 2 (.p 4 (.p 5 (.p 6 (.f 3 (.f 7 (.p 8 (.f 9 (.p 10 (.p 11 .done)))))))))))) (by kernel_rfl) (fun K hK => ?_); refine Qq J J J (Xr J J J J (QV J J J fC0 J (Qq J J J (Xr J J J J (QV J J J fC1 J (QY J J J J J lBytes J (QY J J J J J lInt J (Qh J J J sBytes (by omega) (bytes_at (by omega) (by omega)) J ?_))))))))
      refine XQ J J J lU8 J ?_
      have hx := hb.at p; generalize he : bs.getD p 0 = x at hx
      refine Xe (q := x) J J uU8 uInt (by rw [Int.toNat_natCast, he]; exact Z2 (by omega) (by omega)) J ?_
      refine Qv J J J (Qj (hK _ _ (Qz (Qw ?_)))); clear hK K; refine Qx (fun K hK => ?_); refine Qq J J J (Xr J J J J (QV J J J fC1 J (QY J J J J J lInt J (Qk (iadd (by omega) (by omega)) J J J J ?_)))); refine Xr J J J J (QV J J J fC1 J (XY J J J J J zInt (by simp [Ent.cs]) ?_)); refine Qj (hK _ _ (Qz (Qw (Qw ?_)))); clear hK K; refine Qx (fun K hK => ?_); refine Qq J J J (Qk igtr J J J J (Qj (hK _ _ (Qz ?_)))); clear hK K; refine Q2 J (fun h' => ?_) (fun h' => ?_)
      · exact absurd h' (by omega)
      · refine Q1 (Qz (Qw (Qx fun K hK => ?_))); refine Qq J J J (Qq J J J (Qk (irem (by omega) (by omega)) J J J J ?_)); refine Qv J J J (Qj (hK _ _ (Qz (Q0 ?_)))); clear hK K; refine Zv (x % n, p + 1) [_] rfl (Qu J QQ) J J ⟨Int.emod_nonneg _ (by omega), Int.emod_lt_of_pos _ (by omega)⟩
theorem goNew : InGo Tryz.prog 37 := InGo.of Tryz.func37 rfl (by decide)
theorem New_ok (bs : List Int) : OkN Tryz.prog 37 [bytesC bs, intC 400] 78 (codes (bs.take 400) 0) := by
  refine OkN.enter Tryz.func37 J _ Tryz.ntmps37 J ?_
  intro S w; refine Qw (Qx fun K hK => ?_); refine Qv J J J (Qj (hK _ _ (Qz (Qw (Qw ?_))))); clear hK K; refine Qx (fun K hK => ?_); refine Qq J J J (Qb J J sBytes.und (List.length_map ..) J (Qq J J J (Qk igtr J J J J (Qj (hK _ _ (Qz ?_)))))); clear hK K; refine Q2 J (fun h' => ?_) (fun h' => ?_)
  · refine Qx (fun K hK => ?_); refine Qq J J J (Qq J J J (Ops.cutHi J J J sBytes (by omega) (by rw [List.length_map]; omega) J ?_)); rw [← List.map_take]; refine Qv J J J (Qj (hK _ _ (Qz (Qw ?_)))); clear hK K; refine Qx (fun K hK => ?_); refine Qq J J J (Qi J bCodes J (.one J J J J .nil) J (Xz 0 J J J J J J J (Qv J J J (Qj (hK _ _ (Qz (Q0 ?_))))))); clear hK K; refine Fin.retN J J J J
  · refine Q1 (Qz (Qw (Qx fun K hK => ?_))); refine Qq J J J (Qi J bCodes J (.one J J J J .nil) J (Xz 0 J J J J J J J (Qv J J J (Qj (hK _ _ (Qz (Q0 ?_))))))); clear hK K; refine Fin.retN J J (by rw [List.take_of_length_le (by omega)]; rfl) J
theorem goRoll : InGo Tryz.prog 10 := InGo.of Tryz.func10 rfl (by decide)
theorem Roll_ok (bs : List Int) : OkN Tryz.prog 10 [bytesC bs] 78 (codes (bs.take 400) 0) := by
  refine OkN.enter Tryz.func10 J _ Tryz.ntmps10 J ?_
  intro S w; refine Qw (Qx fun K hK => ?_); refine Qv J J J (Qj (hK _ _ (Qz (Qw ?_)))); clear hK K; refine Qx (fun K hK => ?_); refine Qq J J J (Ops.callN 0 goNew (New_ok bs) J J J J J J (Qv J J J (Qj (hK _ _ (Qz (Q0 ?_)))))); clear hK K; refine Fin.retN J J J J
theorem goPick : InGo Tryz.prog 24 := InGo.of Tryz.func24 rfl (by decide)
theorem Pick_ok (bs : List Int) (p : Nat) (xs : List Int) (h1 : 1 ≤ xs.length) (h2 : xs.length ≤ 256) (hb : Bytes bs) :
    OkB Tryz.prog 24 78 (codes bs p) [intsC xs] (fun q : Int × Nat => q.1 ∈ xs) (fun q => intC q.1) (fun q => codes bs q.2) := by
  refine OkB.enter Tryz.func24 J _ Tryz.ntmps24 J ?_
  intro S w g; refine Qw (Qx fun K hK => ?_); refine Qv J J J (Qj (hK _ _ (Qz (Qw ?_)))); clear hK K; refine Qx (fun K hK => ?_); refine Qq J J J (Qq J J J (Qq J J J (Qb J J sInts.und (List.length_map ..) J (Qe goNext (Next_ok bs p xs.length (by omega) (by omega) hb) J J J J J (fun q hq => ?_))))); obtain ⟨x, p'⟩ := q; dsimp only at hq
  refine Qh J J J sInts (by omega) (X9 (by omega) (by omega)) J ?_
  refine XQ J J J lInt J (Qv J J J (Qj (hK _ _ (Qz (Q0 ?_))))); clear hK K
  refine Zv (xs.getD x.toNat 0, p') [_] rfl (Qu J QQ) J J ?_
  show xs.getD x.toNat 0 ∈ xs
  have hl : x.toNat < xs.length := by omega
  rw [List.getD_eq_getElem?_getD, List.getElem?_eq_getElem hl]; exact List.getElem_mem hl
attribute [local irreducible] OkF OkL OkT
theorem wrap_u32 {n : Int} (h1 : 0 ≤ n) (h2 : n < 4294967296) : IntKind.u32.wrap n = n := by
  rw [show IntKind.u32.wrap n = n % 4294967296 by simp [IntKind.wrap, IntKind.bits, IntKind.signed]]; omega
theorem Zc : InGo Tryz.prog 23 := InGo.of Tryz.func23 rfl (by decide)
theorem Address_ok (bs : List Int) (p : Nat) (hb : Bytes bs) : OkB Tryz.prog 23 78 (codes bs p) [] (fun q : Int × Nat => 1 ≤ q.1 ∧ q.1 < 200000000) (fun q => adrC q.1) (fun q => codes bs q.2) := by
  refine OkB.enter Tryz.func23 J _ Tryz.ntmps23 J ?_
  intro S w g; refine Qw (Qx fun K hK => ?_); refine Qv J J J (Qj (hK _ _ (Qz (Qw ?_)))); clear hK K; refine Qx (fun K hK => ?_); refine Qq J J J (Ops.lit (m := 8) (cs := ints [1, 2, 5, 6, 9, 10, 12, 13]) J J sInts (.one J J J J (.one J J J J (.one J J J J (.one J J J J (.one J J J J (.one J J J J (.one J J J J (.one J J J J .nil)))))))) (by decide) J ?_); refine Qe goPick (Pick_ok bs p [1, 2, 5, 6, 9, 10, 12, 13] (by decide) (by decide) hb) J J J J J (fun q hq => ?_); obtain ⟨x, p1⟩ := q
  have hx : 1 ≤ x ∧ x ≤ 13 := by
    simp only [List.mem_cons, List.not_mem_nil, or_false] at hq; omega
  dsimp only
  refine Qk (iadd (by omega) (by omega)) J J J J ?_
  refine Xe (q := 167772160 + x) J J uInt uAddr (wrap_u32 (by omega) (by omega)) J ?_
  refine Qv J J J (Qj (hK _ _ (Qz (Q0 ?_)))); clear hK K; refine Zv (167772160 + x, p1) [_] rfl (Qu J QQ) J J ⟨by show 1 ≤ 167772160 + x; omega, by show 167772160 + x < 200000000; omega⟩
attribute [local irreducible] wpR
section
variable {X : Ctx} {L : AL} {B : BL} {ops : Array Oper} {K : Act → World → Prop} {r : Pl} {k : Kd}
  {x y z : Operand} {d : Nat} {t t2 t' : TypeId} {pos : String} {af : Array Edge} {g : Option (Nat × Bool)}
def evAllI (L : AL) : Nat → List (Nat × Operand) → List Int → Prop
  | _, [], [] => True
  | s, (i, x) :: q, y :: ys => i = s ∧ ev L x = some (.ct (intC y)) ∧ evAllI L (s + 1) q ys
  | _, _, _ => False
theorem parts_ints : ∀ (ps : List (Nat × Operand)) (ys : List Int) (s : Nat) (pre zs : List CT), pre.length = s → zs.length = ys.length → evAllI L s ps ys → BParts L (fun i => some (i * 1, 1)) ps (pre ++ zs) (pre ++ ints ys)
  | [], [], _, pre, zs, _, h2, _ => by
    have : zs = [] := List.eq_nil_of_length_eq_zero h2
    subst this
    exact .nil
  | [], _ :: _, _, _, _, _, _, h => h.elim
  | _ :: _, [], _, _, _, _, _, h => h.elim
  | (i, x) :: q, y :: ys, s, pre, z :: zs, h1, h2, h => by
    obtain ⟨rfl, h3, h4⟩ := h
    refine .one (off := i * 1) (c := intC y) rfl h3 rfl (by rw [Nat.blt_eq, List.length_append, List.length_cons]; omega) ?_
    have e : (pre ++ z :: zs).set (i * 1) (intC y) = (pre ++ [intC y]) ++ zs := by
      rw [Nat.mul_one, List.set_append_right _ _ (by omega), h1, Nat.sub_self, List.set_cons_zero, List.append_assoc]; rfl
    have e2 : pre ++ ints (y :: ys) = (pre ++ [intC y]) ++ ints ys := by simp [ints]
    rw [e, e2]; exact parts_ints q ys (i + 1) (pre ++ [intC y]) zs (by rw [List.length_append, h1]; rfl) (by simpa using h2) h4
  | _ :: _, _ :: _, _, _, [], _, h2, _ => by simp at h2
theorem chunk_ints : ∀ xs : List Int, chunk 1 xs.length (ints xs) = xs.map fun x => [intC x]
  | [] => rfl
  | x :: xs => by
    show ((ints (x :: xs)).take 1) :: chunk 1 xs.length ((ints (x :: xs)).drop 1) = _
    rw [show (ints (x :: xs)).drop 1 = ints xs by simp [ints], chunk_ints xs]
    rfl
theorem YV {ps : List (Nat × Operand)} {m : Nat} (xs : List Int) (hk : k.mk = true) (hg : gd ops L g = some true) (hT : SlcT X.P t 3 1 8 (.int .i64 0)) (hm : xs.length = m) (hp : evAllI L 0 ps xs) (hml : m ≤ 16777216) (hn : Nat.blt d X.n = true)
    (h : Ops X ops r ((d, .ct (intsC xs)) :: L) B K) : Ops X ops (.cons ⟨some d, .buildSlice t m ps.toArray, t', pos, af, g⟩ k r) L B K := by
  subst hm
  refine Ops.lit (cs := ints xs) hk hg hT ?_ (by omega) hn ?_
  · exact parts_ints ps xs 0 [] _ J ((zinit_len hT xs.length).trans (Nat.mul_one _)) hp
  · rw [chunk_ints]; exact h
end
set_option maxHeartbeats 2000000 in
theorem NextA_ok (bs : List Int) (p : Nat) (n : Int) (h1 : 1 ≤ n) (h2 : n ≤ 1000000) (hb : Bytes bs) :
    OkB Tryz.prog 11 78 (codes bs p) [intC n] (fun q : Int × Nat => 0 ≤ q.1 ∧ q.1 < n) (fun q => intC q.1) (fun q => codes bs q.2) := by
  rcases Int.lt_or_le 256 n with h3 | h3; rotate_left
  · exact Next_ok bs p n h1 h3 hb
  have hlen := hb.len
  refine OkB.enter Tryz.func11 J _ Tryz.ntmps11 J ?_
  intro S w g; refine Qw (Qx fun K hK => ?_); refine Qv J J J (Qj (hK _ _ (Qz (Qw (Qw ?_))))); clear hK K; refine Xw mixed 14 (.p 0 (.p 1 (.p 2 (.p 4 (.p 5 (.p 6 (.f 3 (.f 7 (.p 8 (.p 9 (.p 10 (.p 11 (.p 12 (.p 13 .done)))))))))))))) (by kernel_rfl) (fun K hK => ?_); refine Qq J J J (Xr J J J J (QV J J J fC1 J (Qq J J J (Xr J J J J (QV J J J fC0 J (QY J J J J J lInt J (QY J J J J J lBytes J (Qb J J sBytes.und (List.length_map ..) J (Qk igeq J J J J (Qq J J J (Q7 16 J (fun h => ?_) (fun h => ?_))))))))))))
  · refine Qy J J J (Qy J J J (QJ J J J J (Qj (hK _ _ (Qz (Qp J (Qw ?_))))))); clear hK K; refine Qx (fun K hK => ?_); refine Qv J J J (Qj (hK _ _ (Qz (Q0 (QZ ?_))))); clear hK K; refine Zv (0, p) [_] rfl (Qu J QQ) J J ⟨by show (0 : Int) ≤ 0; omega, by show (0 : Int) < n; omega⟩
  · refine Qq J J J (Qk ilss J J J J (QK J J J J (Qj (hK _ _ (Qz ?_))))); clear hK K; refine Q2 J (fun h' => ?_) (fun h' => ?_)
    · exact absurd h' (by omega)
    · refine Q1 (Qz (Qw ?_)); refine Xw mixed 12 (.p 0 (.p 1 (.p 2 (.p 4 (.p 5 (.p 6 (.f 3 (.f 7 (.p 8 (.f 9 (.p 10 (.p 11 .done)))))))))))) (by kernel_rfl) (fun K hK => ?_); refine Qq J J J (Xr J J J J (QV J J J fC0 J (Qq J J J (Xr J J J J (QV J J J fC1 J (QY J J J J J lBytes J (QY J J J J J lInt J (Qh J J J sBytes (by omega) (bytes_at (by omega) (by omega)) J ?_))))))))
      refine XQ J J J lU8 J ?_
      have hx := hb.at p; generalize he : bs.getD p 0 = x at hx
      refine Xe (q := x) J J uU8 uInt (by rw [Int.toNat_natCast, he]; exact Z2 (by omega) (by omega)) J ?_
      refine Qv J J J (Qj (hK _ _ (Qz (Qw ?_)))); clear hK K; refine Qx (fun K hK => ?_); refine Qq J J J (Xr J J J J (QV J J J fC1 J (QY J J J J J lInt J (Qk (iadd (by omega) (by omega)) J J J J ?_)))); refine Xr J J J J (QV J J J fC1 J (XY J J J J J zInt (by simp [Ent.cs]) ?_)); refine Qj (hK _ _ (Qz (Qw (Qw ?_)))); clear hK K; refine Qx (fun K hK => ?_); refine Qq J J J (Qk igtr J J J J (Qj (hK _ _ (Qz ?_)))); clear hK K; refine Q2 J (fun h' => ?_) (fun h' => ?_)
      · refine Qw (Qx fun K hK => ?_); refine Qq J J J (Qk (imul (by omega) (by omega)) J J J J ?_); refine Qq J J J (Qe goNext (Next_ok bs (p + 1) 256 (by decide) (by decide) hb) J J J J J (fun q hq => ?_)); obtain ⟨y, p1⟩ := q; dsimp only at hq ⊢
        refine Qk (iadd (by omega) (by omega)) J J J J ?_
        refine Qq J J J (Qk (irem (by omega) (by omega)) J J J J ?_); refine Qv J J J (Qj (hK _ _ (Qz (Q0 (QZ ?_))))); clear hK K; refine Zv ((256 * x + y) % n, p1) [_] rfl (Qu J QQ) J J ⟨Int.emod_nonneg _ (by omega), Int.emod_lt_of_pos _ (by omega)⟩
      · exact absurd h3 h'
theorem goBool : InGo Tryz.prog 58 := InGo.of Tryz.func58 rfl (by decide)
theorem BoolB_ok (bs : List Int) (p : Nat) (n : Int) (h1 : 1 ≤ n) (h2 : n ≤ 1000000) (hb : Bytes bs) :
    OkB Tryz.prog 58 78 (codes bs p) [intC n] (fun _ : Bool × Nat => True) (fun q => boolC q.1) (fun q => codes bs q.2) := by
  refine OkB.enter Tryz.func58 J _ Tryz.ntmps58 J ?_
  intro S w g; refine Qw (Qx fun K hK => ?_); refine Qv J J J (Qj (hK _ _ (Qz (Qw ?_)))); clear hK K; refine Qx (fun K hK => ?_); refine Qq J J J (Qq J J J (Qe goNext (NextA_ok bs p n h1 h2 hb) J J J J J (fun q hq => ?_))); obtain ⟨x, p1⟩ := q; dsimp only at hq ⊢; refine Qq J J J (Qk (isub (by omega) (by omega)) J J J J ?_); refine Qk ieql J J J J (Qv J J J (Qj (hK _ _ (Qz (Q0 ?_))))); clear hK K; refine Zv (decide (x = n - 1), p1) [_] rfl (Qu J QQ) J J trivial
theorem goInt : InGo Tryz.prog 106 := InGo.of Tryz.func106 rfl (by decide)
set_option maxHeartbeats 4000000 in
theorem Int_ok (bs : List Int) (p : Nat) (hb : Bytes bs) :
    OkB Tryz.prog 106 78 (codes bs p) [] (fun _ : Int × Nat => True) (fun q => intC q.1) (fun q => codes bs q.2) := by
  refine OkB.enter Tryz.func106 J _ Tryz.ntmps106 J ?_
  intro S w g; refine Qw (Qx fun K hK => ?_); refine Qv J J J (Qj (hK _ _ (Qz (Qw (Qw ?_))))); clear hK K; refine Qx (fun K hK => ?_); refine Qq J J J (Qe goNext (Next_ok bs p 10 (by decide) (by decide) hb) J J J J J (fun q hq => ?_)); obtain ⟨k, p1⟩ := q; dsimp only at hq ⊢; refine Qj (hK _ _ (Qz (Q5 (Qw ?_)))); clear hK K; refine Qx (fun K hK => ?_); refine Qk ieql J J J J (Qv J J J (Qj (hK _ _ (Qz ?_)))); clear hK K; refine Q2 J (fun h => ?_) (fun h => ?_)
  · refine Qw (Qx fun K hK => ?_); refine Qq J J J (Qe goNext (Next_ok bs p1 3 (by decide) (by decide) hb) J J J J J (fun q hq2 => ?_)); obtain ⟨x, p2⟩ := q; dsimp only at hq2 ⊢
    refine Qk (isub (by omega) (by omega)) J J J J ?_
    refine Qv J J J (Qj (hK _ _ (Qz (Q0 (Q3 (QZ ?_)))))); clear hK K; refine Zv (_, p2) [_] rfl (Qu J QQ) J J trivial
  refine Qw (Qx fun K hK => ?_); refine Qk ieql J J J J (Qv J J J (Qj (hK _ _ (Qz ?_)))); clear hK K; refine Q2 J (fun h => ?_) (fun h => ?_)
  · refine Qw (Qx fun K hK => ?_)
    refine YV [9223372036854775807, -9223372036854775808, 1125899906842624, 1125899906842625, 65535, 65536, 255, 256, 1023, 1024, 65534, 65535, 4294967296, 4611686018427387905] rfl rfl sInts J ⟨rfl, rfl, rfl, rfl, rfl, rfl, rfl, rfl, rfl, rfl, rfl, rfl, rfl, rfl, rfl, rfl, rfl, rfl, rfl, rfl, rfl, rfl, rfl, rfl, rfl, rfl, rfl, rfl, trivial⟩ (by decide) J ?_
    generalize hxs : ([9223372036854775807, -9223372036854775808, 1125899906842624, 1125899906842625, 65535, 65536, 255, 256, 1023, 1024, 65534, 65535, 4294967296, 4611686018427387905] : List Int) = xs
    have hxl : xs.length = 14 := by rw [← hxs]; rfl
    clear hxs; refine Qq J J J (Qe goNext (Next_ok bs p1 14 (by decide) (by decide) hb) J J J J J (fun q hq2 => ?_)); obtain ⟨x, p2⟩ := q; dsimp only at hq2 ⊢
    refine Qh J J J sInts (by omega) (X9 (by omega) (by omega)) J ?_
    refine XQ J J J lInt J (Qv J J J (Qj (hK _ _ (Qz (Q0 (Q3 (QZ ?_))))))); clear hK K; refine Zv (_, p2) [_] rfl (Qu J QQ) J J trivial
  refine Qw (Qx fun K hK => ?_); refine Qk ieql J J J J (Qv J J J (Qj (hK _ _ (Qz ?_)))); clear hK K; refine Q2 J (fun h => ?_) (fun h => ?_)
  · refine Qw (Qx fun K hK => ?_); refine Qq J J J (Qe goNext (Next_ok bs p1 256 (by decide) (by decide) hb) J J J J J (fun q hq2 => ?_)); obtain ⟨x, p2⟩ := q; dsimp only at hq2 ⊢
    refine Qk (imul (by omega) (by omega)) J J J J ?_
    refine Qq J J J (Qe goNext (Next_ok bs p2 256 (by decide) (by decide) hb) J J J J J (fun q hq3 => ?_)); obtain ⟨y, p3⟩ := q; dsimp only at hq3 ⊢
    refine Qk (iadd (by omega) (by omega)) J J J J ?_
    refine Qv J J J (Qj (hK _ _ (Qz (Q0 (Q3 (QZ ?_)))))); clear hK K; refine Zv (_, p3) [_] rfl (Qu J QQ) J J trivial
  refine Q1 (Qz (Qw (Qx fun K hK => ?_))); refine Qq J J J (Qe goNext (Next_ok bs p1 40 (by decide) (by decide) hb) J J J J J (fun q hq2 => ?_)); obtain ⟨x, p2⟩ := q; dsimp only at hq2 ⊢; refine Qv J J J (Qj (hK _ _ (Qz (Q0 ?_)))); clear hK K; refine Zv (x, p2) [_] rfl (Qu J QQ) J J trivial
theorem goCAddress : InGo Tryz.prog 104 := InGo.of Tryz.func104 rfl (by decide)
abbrev adrF (x : Fin 4294967296) : CT := adrC (x.val : Int)
theorem wrap_toFin {n : Int} (h1 : 0 ≤ n) (h2 : n < 4294967296) : IntKind.u32.wrap n = (((⟨n.toNat, by omega⟩ : Fin 4294967296).val : Nat) : Int) := by
  rw [wrap_u32 h1 h2]; show n = ((n.toNat : Nat) : Int); omega
theorem shl16 {x : Int} (h0 : 0 ≤ x) (h1 : x < 65536) : IBin .shl .i64 x .u64 16 (.int .i64 (x * 65536)) := .of fun P t w => by
  show (Op.shift .shl .i64 x .u64 16).run P w = _
  have e : (Op.shift .shl .i64 x .u64 16) = pure (.int .i64 (IntKind.i64.wrap (x * 2 ^ 16))) := rfl
  rw [e, show ((2 : Int) ^ 16) = 65536 from rfl, Z2 (by omega) (by omega)]
  rfl
set_option maxHeartbeats 4000000 in
theorem CAddress_ok (bs : List Int) (p : Nat) (hb : Bytes bs) :
    OkB Tryz.prog 104 78 (codes bs p) [] (fun _ : Fin 4294967296 × Nat => True) (fun q => adrF q.1) (fun q => codes bs q.2) := by
  refine OkB.enter Tryz.func104 J _ Tryz.ntmps104 J ?_
  intro S w g; refine Qw (Qx fun K hK => ?_); refine Qv J J J (Qj (hK _ _ (Qz (Qw (Qw ?_))))); clear hK K; refine Qx (fun K hK => ?_); refine Qq J J J (Qe goNext (Next_ok bs p 12 (by decide) (by decide) hb) J J J J J (fun q hq => ?_)); obtain ⟨k, p1⟩ := q; dsimp only at hq ⊢; refine Qk ieql J J J J (Qj (hK _ _ (Qz ?_))); clear hK K; refine Q2 J (fun h => ?_) (fun h => ?_)
  · refine Qw (Qx fun K hK => ?_); refine Qq J J J (Qe goNext (NextA_ok bs p1 65536 (by decide) (by decide) hb) J J J J J (fun q hq2 => ?_)); obtain ⟨x, p2⟩ := q; dsimp only at hq2 ⊢; skip
    refine Qk (v := .int .i64 (x * 65536)) (shl16 (by omega) (by omega)) J J J J ?_
    refine Qq J J J (Qe goNext (NextA_ok bs p2 65536 (by decide) (by decide) hb) J J J J J (fun q hq3 => ?_)); obtain ⟨y, p3⟩ := q; dsimp only at hq3 ⊢
    refine Qk (iadd (by omega) (by omega)) J J J J ?_
    refine Xe J J uInt uAddr (wrap_toFin (n := x * 65536 + y) (by omega) (by omega)) J ?_
    refine Qv J J J (Qj (hK _ _ (Qz (Q0 (QZ ?_))))); clear hK K; refine Zv (_, p3) [_] rfl (Qu J QQ) J J trivial
  refine Q1 (Qz (Qw (Qx fun K hK => ?_))); refine Qq J J J (Qe goNext (Next_ok bs p1 3 (by decide) (by decide) hb) J J J J J (fun q hq2 => ?_)); obtain ⟨x, p2⟩ := q; dsimp only at hq2 ⊢; skip
  refine Qk (v := .int .i64 (x * 65536)) (shl16 (by omega) (by omega)) J J J J ?_
  refine Qk (iadd (by omega) (by omega)) J J J J ?_
  refine Qq J J J (Qe goNext (Next_ok bs p2 8 (by decide) (by decide) hb) J J J J J (fun q hq3 => ?_)); obtain ⟨y, p3⟩ := q; dsimp only at hq3 ⊢
  refine Qk (iadd (by omega) (by omega)) J J J J ?_
  refine Xe J J uInt uAddr (wrap_toFin (n := 167772160 + x * 65536 + y) (by omega) (by omega)) J ?_
  refine Qv J J J (Qj (hK _ _ (Qz (Q0 ?_)))); clear hK K; refine Zv (_, p3) [_] rfl (Qu J QQ) J J trivial
theorem goCProto : InGo Tryz.prog 105 := InGo.of Tryz.func105 rfl (by decide)
set_option maxHeartbeats 4000000 in
theorem CProto_ok (bs : List Int) (p : Nat) (hb : Bytes bs) :
    OkB Tryz.prog 105 78 (codes bs p) [] (fun _ : Int × Nat => True) (fun q => intC q.1) (fun q => codes bs q.2) := by
  refine OkB.enter Tryz.func105 J _ Tryz.ntmps105 J ?_
  intro S w g; refine Qw (Qx fun K hK => ?_); refine Qv J J J (Qj (hK _ _ (Qz (Qw ?_)))); clear hK K; refine Qx (fun K hK => ?_)
  refine YV [17, 1, 6] rfl rfl sInts J ⟨rfl, rfl, rfl, rfl, rfl, rfl, trivial⟩ (by decide) J ?_
  generalize hxs : ([17, 1, 6] : List Int) = xs
  have hxl : xs.length = 3 := by rw [← hxs]; rfl
  clear hxs; refine Qq J J J (Qe goNext (Next_ok bs p 3 (by decide) (by decide) hb) J J J J J (fun q hq => ?_)); obtain ⟨k, p1⟩ := q; dsimp only at hq ⊢
  refine Qh J J J sInts (by omega) (X9 (by omega) (by omega)) J ?_
  refine XQ J J J lInt J (Qv J J J (Qj (hK _ _ (Qz (Q0 ?_))))); clear hK K; refine Zv (_, p1) [_] rfl (Qu J QQ) J J trivial
theorem goDProto : InGo Tryz.prog 141 := InGo.of Tryz.func141 rfl (by decide)
set_option maxHeartbeats 4000000 in
theorem DProto_ok (bs : List Int) (p : Nat) (hb : Bytes bs) :
    OkB Tryz.prog 141 78 (codes bs p) [] (fun q : Int × Nat => q.1 = 17 ∨ q.1 = 1 ∨ q.1 = 6) (fun q => intC q.1) (fun q => codes bs q.2) := by
  refine OkB.enter Tryz.func141 J _ Tryz.ntmps141 J ?_
  intro S w g; refine Qw (Qx fun K hK => ?_); refine Qv J J J (Qj (hK _ _ (Qz (Qw ?_)))); clear hK K; refine Qx (fun K hK => ?_); refine Qq J J J (YV [17, 1, 6] rfl rfl sInts J ⟨rfl, rfl, rfl, rfl, rfl, rfl, trivial⟩ (by decide) J ?_); refine Qe goPick (Pick_ok bs p [17, 1, 6] (by decide) (by decide) hb) J J J J J (fun q hq => ?_); obtain ⟨k, p1⟩ := q; dsimp only at hq ⊢; refine Qv J J J (Qj (hK _ _ (Qz (Q0 ?_)))); clear hK K; refine Zv (k, p1) [_] rfl (Qu J QQ) J J (by simpa using hq)
theorem Y5 : LdN Tryz.prog 86 3 := LdN.of _ Tryz.underlying86 rfl (by kernel_rfl)
theorem szTrace : (Tryz.prog.info? 86).map (·.size) = some 3 := by kernel_rfl
theorem zvTrace : (Tryz.prog.info? 86).map (·.zero) = some (some (.agg #[.int .i64 0, .int .u32 0, .int .i64 0])) := by kernel_rfl
theorem bTrace : bInfo Tryz.prog 86 = some (.agg #[.int .i64 0, .int .u32 0, .int .i64 0], [(0, some 1), (1, some 1), (2, some 1)]) := by kernel_rfl
theorem fR0t : fldInfo Tryz.prog 86 0 = some (0, some 1) := by kernel_rfl
theorem fR1t : fldInfo Tryz.prog 86 1 = some (1, some 1) := by kernel_rfl
theorem fR2t : fldInfo Tryz.prog 86 2 = some (2, some 1) := by kernel_rfl
structure Tr where
  va : Int
  ds : Fin 4294967296
  pr : Int
  p : Nat
abbrev trCs (e : Tr) : List CT := [intC e.va, adrF e.ds, intC e.pr]
theorem goTrace : InGo Tryz.prog 107 := InGo.of Tryz.func107 rfl (by decide)
set_option maxHeartbeats 4000000 in
theorem Trace_ok (bs : List Int) (p : Nat) (hb : Bytes bs) : OkB Tryz.prog 107 78 (codes bs p) [] (fun q : Tr => (0 ≤ q.va ∧ q.va < 2) ∧ (q.ds ≠ 0 ∧ (q.pr = 17 ∨ q.pr = 1 ∨ q.pr = 6))) (fun q => .fr (aggT (trCs q))) (fun q => codes bs q.p) := by
  refine OkB.enter Tryz.func107 J _ Tryz.ntmps107 J ?_
  intro S w g; refine Qw (Qx fun K hK => ?_); refine Qg 1 J J zvTrace J J J (Qj (hK _ _ (Qz (Qw ?_)))); clear hK K; refine Qx (fun K hK => ?_); refine Qq J J J (Qe goNext (Next_ok bs p 2 (by decide) (by decide) hb) J J J J J (fun q hq => ?_)); obtain ⟨k, p1⟩ := q; dsimp only at hq ⊢; refine Qq J J J (Qe goNext (Next_ok bs p1 3 (by decide) (by decide) hb) J J J J J (fun q hq2 => ?_)); obtain ⟨x, p2⟩ := q; dsimp only at hq2 ⊢
  refine Qk (iadd (by omega) (by omega)) J J J J ?_
  refine Xe J J uInt uAddr (wrap_toFin (n := 167774464 + x) (by omega) (by omega)) J ?_
  have hdd : (⟨(167774464 + x).toNat, by omega⟩ : Fin 4294967296) ≠ 0 := fun h => by
    have := congrArg _root_.Fin.val h; have h0 : ((0 : Fin 4294967296).val) = 0 := rfl; rw [h0] at this; dsimp only at this; omega
  generalize (⟨(167774464 + x).toNat, _⟩ : Fin 4294967296) = dd at hdd ⊢; refine Qq J J J (Qe goDProto (DProto_ok bs p2 hb) J J J J J (fun q hq3 => ?_)); obtain ⟨pr, p3⟩ := q; dsimp only; skip; refine Qi J bTrace J (.one J J J J (.one J J J J (.one J J J J .nil))) J (Qa 3 J J J J J szTrace J J (Qj (hK _ _ (Qz (Q0 ?_))))); clear hK K; refine Fin.endB ⟨k, dd, pr, p3⟩ [_] rfl (Qc (n := 3) J J Y5 J QQ) J J ⟨⟨hq.1, hq.2⟩, hdd, hq3⟩
end Go.Proofs.YtlkdkbdgnjcopaaGreat
