/-
  A small logic of symbolic states over the model: what the slots of a frame hold is told by a list of slot types, what the call's own blocks hold by a list of entries; frozen data is told by predicates that new memory and writes to the call's own blocks do not touch. Definitions and the laws of worlds. No program is named.
-/
import Derived.WalkKit
import Derived.OrdersHeld
import Derived.Deep.RegionHeld3
namespace Go.Own
open Go.RowKit

abbrev BSet := Nat → Prop

/-- The blocks of S that were there are as they were, and in S'. -/
structure Kp (S S' : BSet) (w w' : World) : Prop where
  size : w.heap.size ≤ w'.heap.size
  keep : ∀ k, k < w.heap.size → S k → S' k ∧ w'.heap[k]? = w.heap[k]?

theorem Kp.refl (S : BSet) (w : World) : Kp S S w w := ⟨Nat.le_refl _, fun _ _ h => ⟨h, rfl⟩⟩
theorem Kp.trans {S1 S2 S3 : BSet} {w1 w2 w3 : World} (h : Kp S1 S2 w1 w2) (h' : Kp S2 S3 w2 w3) : Kp S1 S3 w1 w3 :=
  ⟨Nat.le_trans h.size h'.size, fun k hk hs => by
    obtain ⟨a, b⟩ := h.keep k hk hs
    obtain ⟨c, d⟩ := h'.keep k (Nat.lt_of_lt_of_le hk h.size) a
    exact ⟨c, d.trans b⟩⟩
theorem Kp.of_below {S : BSet} {w w' : World} (h : Below w.heap.size w w') : Kp S S w w' := ⟨h.size, fun k hk hs => ⟨hs, h.block k hk⟩⟩
theorem Kp.cell {S S' : BSet} {w w' : World} (h : Kp S S' w w') {b o : Nat} (hb : b < w.heap.size) (hs : S b) : w'.cell? ⟨b, o, none⟩ = w.cell? ⟨b, o, none⟩ :=
  World.cell?_of_block (h.keep b hb hs).2

structure Ty where
  p : BSet → World → Value → Prop
  mono : ∀ {S S' : BSet} {w w' : World} {v : Value}, Kp S S' w w' → p S w v → p S' w' v
  one : Bool
  hone : one = true → ∀ {S : BSet} {w : World} {v : Value}, p S w v → v.oneCell' = true

/-- What one cell holds: a known value, or frozen data. -/
inductive CT where
  | ex (v : Value)
  | fr (T : Ty)

def CT.p (S : BSet) (w : World) : CT → Value → Prop
  | .ex u, v => v = u
  | .fr T, v => T.p S w v

theorem CT.mono {S S' : BSet} {w w' : World} {v : Value} {c : CT} (h : Kp S S' w w') (hp : c.p S w v) : c.p S' w' v := by
  cases c with
  | ex u => exact hp
  | fr T => exact T.mono h hp

def cells (S : BSet) (w : World) : List CT → List Value → Prop
  | [], [] => True
  | c :: cs, v :: vs => c.p S w v ∧ cells S w cs vs
  | _, _ => False

theorem cells.mono {S S' : BSet} {w w' : World} (h : Kp S S' w w') : ∀ {cs : List CT} {vs : List Value}, cells S w cs vs → cells S' w' cs vs
  | [], [], _ => trivial
  | _ :: _, _ :: _, ⟨a, b⟩ => ⟨CT.mono h a, cells.mono h b⟩
  | [], _ :: _, h => h.elim
  | _ :: _, [], h => h.elim

theorem cells.length {S : BSet} {w : World} : ∀ {cs : List CT} {vs : List Value}, cells S w cs vs → vs.length = cs.length
  | [], [], _ => rfl
  | _ :: _, _ :: _, ⟨_, b⟩ => by simp [cells.length b]
  | [], _ :: _, h => h.elim
  | _ :: _, [], h => h.elim

theorem cells.get {S : BSet} {w : World} : ∀ {cs : List CT} {vs : List Value} {i : Nat} {c : CT}, cells S w cs vs → cs[i]? = some c → ∃ v, vs[i]? = some v ∧ c.p S w v
  | [], [], _, _, _, h => by simp at h
  | c :: cs, v :: vs, 0, c', ⟨a, _⟩, h => by simp at h; subst h; exact ⟨v, rfl, a⟩
  | c :: cs, v :: vs, i + 1, c', ⟨_, b⟩, h => by simp at h; obtain ⟨u, hu, hp⟩ := cells.get b h; exact ⟨u, by simpa using hu, hp⟩
  | [], _ :: _, _, _, h, _ => h.elim
  | _ :: _, [], _, _, h, _ => h.elim

theorem cells.append {S : BSet} {w : World} : ∀ {cs ds : List CT} {vs us : List Value}, cells S w cs vs → cells S w ds us → cells S w (cs ++ ds) (vs ++ us)
  | [], _, [], _, _, h => h
  | _ :: _, _, _ :: _, _, ⟨a, b⟩, h => ⟨a, cells.append b h⟩
  | [], _, _ :: _, _, h, _ => h.elim
  | _ :: _, _, [], _, h, _ => h.elim

theorem cells.split {S : BSet} {w : World} : ∀ {cs ds : List CT} {vs : List Value}, cells S w (cs ++ ds) vs → cells S w cs (vs.take cs.length) ∧ cells S w ds (vs.drop cs.length)
  | [], _, _, h => ⟨trivial, h⟩
  | _ :: cs, ds, _ :: vs, ⟨a, b⟩ => by obtain ⟨x, y⟩ := cells.split b; exact ⟨⟨a, x⟩, y⟩
  | _ :: _, _, [], h => h.elim

theorem cells.set {S : BSet} {w : World} : ∀ {cs : List CT} {vs : List Value} {i : Nat} {c : CT} {v : Value}, cells S w cs vs → c.p S w v → cells S w (cs.set i c) (vs.set i v)
  | [], [], _, _, _, _, _ => trivial
  | _ :: _, _ :: _, 0, _, _, ⟨_, b⟩, h => ⟨h, b⟩
  | _ :: _, _ :: _, i + 1, _, _, ⟨a, b⟩, h => ⟨a, cells.set b h⟩
  | [], _ :: _, _, _, _, h, _ => h.elim
  | _ :: _, [], _, _, _, h, _ => h.elim

theorem cells.take {S : BSet} {w : World} {cs : List CT} {vs : List Value} (h : cells S w cs vs) (n : Nat) : cells S w (cs.take n) (vs.take n) := by
  by_cases hn : n ≤ cs.length
  · have h' : cells S w (cs.take n ++ cs.drop n) vs := by rw [List.take_append_drop]; exact h
    have := (cells.split h').1
    rwa [List.length_take, Nat.min_eq_left hn] at this
  · have hl := h.length
    rw [List.take_of_length_le (by omega), List.take_of_length_le (by omega)]; exact h

theorem cells.drop {S : BSet} {w : World} {cs : List CT} {vs : List Value} (h : cells S w cs vs) (n : Nat) : cells S w (cs.drop n) (vs.drop n) := by
  by_cases hn : n ≤ cs.length
  · have h' : cells S w (cs.take n ++ cs.drop n) vs := by rw [List.take_append_drop]; exact h
    have := (cells.split h').2
    rwa [List.length_take, Nat.min_eq_left hn] at this
  · have hl := h.length
    rw [List.drop_of_length_le (by omega), List.drop_of_length_le (by omega)]; exact trivial

/-! ### Frozen data -/

/-- From cell o of block b on lie the cells cs. -/
def memAt (S : BSet) (w : World) (b o : Nat) (cs : List CT) : Prop :=
  S b ∧ b < w.heap.size ∧ ∃ vs, cells S w cs vs ∧ ∀ i u, vs[i]? = some u → w.cell? ⟨b, o + i, none⟩ = some u

theorem memAt.mono {S S' : BSet} {w w' : World} {b o : Nat} {cs : List CT} (h : Kp S S' w w') (hm : memAt S w b o cs) : memAt S' w' b o cs := by
  obtain ⟨h1, h2, vs, h3, h4⟩ := hm
  exact ⟨(h.keep b h2 h1).1, Nat.lt_of_lt_of_le h2 h.size, vs, h3.mono h, fun i u hu => (h.cell h2 h1).trans (h4 i u hu)⟩

theorem memAt.take {S : BSet} {w : World} {b o : Nat} {cs : List CT} (hm : memAt S w b o cs) (n : Nat) : memAt S w b o (cs.take n) := by
  obtain ⟨h1, h2, vs, h3, h4⟩ := hm
  refine ⟨h1, h2, vs.take n, h3.take n, fun i u hu => h4 i u ?_⟩
  rw [List.getElem?_take] at hu
  split at hu
  · exact hu
  · cases hu

theorem memAt.drop {S : BSet} {w : World} {b o : Nat} {cs : List CT} (hm : memAt S w b o cs) (n : Nat) : memAt S w b (o + n) (cs.drop n) := by
  obtain ⟨h1, h2, vs, h3, h4⟩ := hm
  refine ⟨h1, h2, vs.drop n, h3.drop n, fun i u hu => ?_⟩
  rw [List.getElem?_drop] at hu
  have := h4 (n + i) u hu
  rwa [← Nat.add_assoc] at this

def tupT (cs : List CT) : Ty where
  p S w v := ∃ vs : List Value, v = .tuple vs.toArray ∧ cells S w cs vs
  mono h := fun ⟨vs, a, b⟩ => ⟨vs, a, b.mono h⟩
  one := false
  hone h := by cases h

def aggT (cs : List CT) : Ty where
  p S w v := ∃ vs : List Value, v = .agg vs.toArray ∧ cells S w cs vs
  mono h := fun ⟨vs, a, b⟩ => ⟨vs, a, b.mono h⟩
  one := false
  hone h := by cases h

/-- A pointer to frozen cells. -/
def ptrT (cs : List CT) : Ty where
  p S w v := ∃ b o, v = .pointer (some ⟨b, o, none⟩) ∧ memAt S w b o cs
  mono h := fun ⟨b, o, a, m⟩ => ⟨b, o, a, m.mono h⟩
  one := true
  hone _ := by rintro _ _ _ ⟨b, o, rfl, _⟩; rfl

/-- A slice of frozen elements of k cells each. -/
def sliceT (k : Nat) (es : List (List CT)) : Ty where
  p S w v := ∃ a c, v = .slice a es.length c ∧ es.length ≤ c ∧ c ≤ maxLen ∧ (∀ e ∈ es, e.length = k) ∧ (es ≠ [] → ∃ b o, a = some ⟨b, o, none⟩ ∧ memAt S w b o es.flatten)
  mono h := fun ⟨a, c, h1, h2, h3, h4, h5⟩ => ⟨a, c, h1, h2, h3, h4, fun hne => by
    obtain ⟨b, o, e, m⟩ := h5 hne
    exact ⟨b, o, e, m.mono h⟩⟩
  one := true
  hone _ := by rintro _ _ _ ⟨a, c, rfl, _⟩; rfl

/-- Some data of a family. -/
def exT {α : Type} (J : α → Prop) (f : α → CT) : Ty where
  p S w v := ∃ x, J x ∧ (f x).p S w v
  mono h := fun ⟨x, a, b⟩ => ⟨x, a, CT.mono h b⟩
  one := false
  hone h := by cases h

def CT.one : CT → Bool
  | .ex v => v.oneCell'
  | .fr T => T.one
theorem CT.hone {S : BSet} {w : World} {v : Value} {c : CT} (h : c.one = true) (hp : c.p S w v) : v.oneCell' = true := by
  cases c with
  | ex u => obtain rfl := hp; exact h
  | fr T => exact T.hone h hp
def ones : List CT → Bool
  | [] => true
  | c :: cs => c.one && ones cs
theorem ones_cells {S : BSet} {w : World} : ∀ {cs : List CT} {vs : List Value}, ones cs = true → cells S w cs vs → ∀ v ∈ vs, v.oneCell' = true
  | [], [], _, _, _, h => by cases h
  | c :: cs, v :: vs, ho, ⟨a, b⟩, u, hu => by
    simp only [ones, Bool.and_eq_true] at ho
    rcases List.mem_cons.1 hu with rfl | hu
    · exact CT.hone ho.1 a
    · exact ones_cells ho.2 b u hu
  | [], _ :: _, _, h, _, _ => h.elim
  | _ :: _, [], _, h, _, _ => h.elim
theorem cells_one {v : Value} (h : v.oneCell' = true) : v.cells = #[v] := by cases v <;> first | rfl | cases h

/-! ### The call's own blocks -/

inductive Ent where
  | box (t : TypeId) (cs : List CT)
  | row (e : TypeId) (k : Nat) (cs : List CT)
  | rowx (v : Value) (e : TypeId) (k : Nat) (cs : List CT)

def blk : Value → Option Nat
  | .slice (some a) _ _ => some a.block
  | .pointer (some a) => some a.block
  | _ => none

def Ent.ok (S : BSet) (w : World) (h : Value) : Ent → Prop
  | .box t cs => ∃ g vs, h = .pointer (some ⟨g, 0, none⟩) ∧ w.heap[g]? = some (.cells (List.toArray vs) t (0, 0)) ∧ cells S w cs vs
  | .row e k cs => ∃ n vs, w.ownsRow 0 e k h n vs ∧ cells S w cs vs
  | .rowx v e k cs => h = v ∧ ∃ n vs, w.ownsRow 0 e k h n vs ∧ cells S w cs vs

abbrev BL := List (Nat × Ent)
def bget : BL → Nat → Option Ent
  | [], _ => none
  | (j, e) :: B, i => match Nat.beq j i with | true => some e | false => bget B i
def bdel : BL → Nat → BL
  | [], _ => []
  | (j, e) :: B, i => match Nat.beq j i with | true => bdel B i | false => (j, e) :: bdel B i

theorem beq_ne {a b : Nat} (h : a ≠ b) : Nat.beq a b = false := by
  cases e : Nat.beq a b with
  | false => rfl
  | true => exact absurd (Nat.eq_of_beq_eq_true e) h

theorem bget_cons_eq (B : BL) (i : Nat) (e : Ent) : bget ((i, e) :: B) i = some e := by simp [bget]
theorem bget_cons_ne (B : BL) {i j : Nat} (e : Ent) (h : j ≠ i) : bget ((j, e) :: B) i = bget B i := by
  have : Nat.beq j i = false := beq_ne h
  simp [bget, this]
theorem bget_bdel_ne (B : BL) {i j : Nat} (h : i ≠ j) : bget (bdel B j) i = bget B i := by
  induction B with
  | nil => rfl
  | cons x B ih =>
    obtain ⟨k, e⟩ := x
    by_cases hk : k = j
    · subst hk; simp only [bdel, Nat.beq_refl]; rw [ih, bget_cons_ne _ _ (Ne.symm h)]
    · have : Nat.beq k j = false := beq_ne hk
      simp only [bdel, this]
      by_cases hi : k = i
      · subst hi; rw [bget_cons_eq, bget_cons_eq]
      · rw [bget_cons_ne _ _ hi, bget_cons_ne _ _ hi, ih]
theorem bget_bdel_eq (B : BL) (j : Nat) : bget (bdel B j) j = none := by
  induction B with
  | nil => rfl
  | cons x B ih =>
    obtain ⟨k, e⟩ := x
    by_cases hk : k = j
    · subst hk; simp only [bdel, Nat.beq_refl]; exact ih
    · have : Nat.beq k j = false := beq_ne hk
      simp only [bdel, this]; rw [bget_cons_ne _ _ hk]; exact ih

/-! ### Slots -/

inductive Sl where
  | ct (c : CT)
  | own (i : Nat)
  | loc (i off : Nat)
  | any

def Sl.p (S : BSet) (ρ : Nat → Value) (w : World) : Sl → Value → Prop
  | .ct c, v => c.p S w v
  | .own i, v => v = ρ i
  | .loc i off, v => ∃ g, blk (ρ i) = some g ∧ v = .pointer (some ⟨g, off, none⟩)
  | .any, _ => True

theorem Sl.mono {S S' : BSet} {ρ : Nat → Value} {w w' : World} {v : Value} {s : Sl} (h : Kp S S' w w') (hp : s.p S ρ w v) : s.p S' ρ w' v := by
  cases s with
  | ct c => exact CT.mono h hp
  | own i => exact hp
  | loc i o => exact hp
  | any => trivial

abbrev AL := List (Nat × Sl)
def look : AL → Nat → Option Sl
  | [], _ => none
  | (d, s) :: L, i => match Nat.beq d i with | true => some s | false => look L i

theorem look_cons_eq (L : AL) (d : Nat) (s : Sl) : look ((d, s) :: L) d = some s := by simp [look]
theorem look_cons_ne (L : AL) {d i : Nat} (s : Sl) (h : d ≠ i) : look ((d, s) :: L) i = look L i := by
  have : Nat.beq d i = false := beq_ne h
  simp [look, this]

/-- What hangs on entry i is known no more. -/
def Sl.kill (i : Nat) : Sl → Sl
  | .own j => match Nat.beq j i with | true => .any | false => .own j
  | .loc j o => match Nat.beq j i with | true => .any | false => .loc j o
  | s => s
def killL (i : Nat) : AL → AL
  | [] => []
  | (d, s) :: L => (d, s.kill i) :: killL i L
theorem look_killL (i : Nat) (L : AL) (d : Nat) : look (killL i L) d = (look L d).map (Sl.kill i) := by
  induction L with
  | nil => rfl
  | cons x L ih =>
    obtain ⟨k, s⟩ := x
    by_cases hk : k = d
    · subst hk; simp [killL, look]
    · simp only [killL]; rw [look_cons_ne _ _ hk, look_cons_ne _ _ hk, ih]

/-! ### The state -/

structure Fr (bor : BSet) (w w' : World) : Prop where
  os : w'.os = w.os
  tape : w'.tape = w.tape
  output : w'.output = w.output
  size : w.heap.size ≤ w'.heap.size
  block : ∀ k, k < w.heap.size → ¬ bor k → w'.heap[k]? = w.heap[k]?

structure Ctx where
  P : Program
  n : Nat
  S0 : BSet
  w0 : World
  bor : BSet
  fix : List (Nat × Value) := []

def isBx : Option Ent → Bool
  | some (.box _ _) => true
  | _ => false

def Sof (X : Ctx) (B : BL) (ρ : Nat → Value) : BSet := fun k => X.S0 k ∧ ∀ i e, bget B i = some e → blk (ρ i) ≠ some k

structure Is (X : Ctx) (L : AL) (B : BL) (a : Act) (ρ : Nat → Value) (w : World) : Prop where
  size : a.tmps.size = X.n
  defers : a.defers = []
  slot : ∀ d s, look L d = some s → s.p (Sof X B ρ) ρ w (a.tmps.getD d undef)
  ent : ∀ i e, bget B i = some e → e.ok (Sof X B ρ) w (ρ i) ∧ ∀ g, blk (ρ i) = some g → (X.w0.heap.size ≤ g ∨ X.bor g)
  apart : ∀ i j e e', bget B i = some e → bget B j = some e' → i ≠ j → ∀ g, blk (ρ i) = some g → blk (ρ j) ≠ some g
  frame : Fr X.bor X.w0 w
  fresh : ∀ k, X.w0.heap.size ≤ k → X.S0 k
  fixd : ∀ p ∈ X.fix, isBx (bget B p.1) = true ∧ ρ p.1 = p.2

theorem Fr.below {bor : BSet} {w0 w w' : World} (h : Fr bor w0 w) (hb : Below w.heap.size w w') : Fr bor w0 w' :=
  ⟨hb.os.trans h.os, hb.tape.trans h.tape, hb.output.trans h.output, Nat.le_trans h.size hb.size, fun k hk hn => (hb.block k (Nat.lt_of_lt_of_le hk h.size)).trans (h.block k hk hn)⟩

theorem heap_lt {w : World} {g : Nat} {o : Obj} (h : w.heap[g]? = some o) : g < w.heap.size := by
  rcases Nat.lt_or_ge g w.heap.size with h' | h'
  · exact h'
  · rw [Array.getElem?_eq_none h'] at h; cases h

theorem blk_own {v : Value} {e : TypeId} {k n base : Nat} {w : World} {vs : List Value} (h : w.ownsRow base e k v n vs) : blk v = v.ownBlock := by
  rcases h.2 with ⟨rfl, _⟩ | ⟨g, cap, cur, rfl, _⟩ <;> rfl

/-- An entry stays while its block and the frozen blocks stay. -/
theorem Ent.keep {S S' : BSet} {w w' : World} {h : Value} {e : Ent} (hk : Kp S S' w w') (hb : ∀ g, blk h = some g → g < w.heap.size → w'.heap[g]? = w.heap[g]?) (ho : e.ok S w h) : e.ok S' w' h := by
  have hrow : ∀ e k cs, (Ent.row e k cs).ok S w h → (Ent.row e k cs).ok S' w' h := fun e k cs ho => by
    obtain ⟨n, vs, how, hc⟩ := ho
    refine ⟨n, vs, ⟨how.1, ?_⟩, hc.mono hk⟩
    rcases how.2 with h2 | ⟨g, cap, cur, rfl, h3, hg, r⟩
    · exact .inl h2
    · exact .inr ⟨g, cap, cur, rfl, h3, (hb g rfl (heap_lt hg)).trans hg, r⟩
  cases e with
  | box t cs =>
    obtain ⟨g, vs, rfl, hg, hc⟩ := ho
    exact ⟨g, vs, rfl, (hb g rfl (heap_lt hg)).trans hg, hc.mono hk⟩
  | row e k cs => exact hrow e k cs ho
  | rowx v e k cs => exact ⟨ho.1, hrow e k cs ho.2⟩

theorem Is.below {X : Ctx} {L : AL} {B : BL} {a : Act} {ρ : Nat → Value} {w w' : World} (h : Is X L B a ρ w) (hb : Below w.heap.size w w') : Is X L B a ρ w' :=
  ⟨h.size, h.defers, fun d s hd => Sl.mono (Kp.of_below hb) (h.slot d s hd),
   fun i e hi => ⟨Ent.keep (h := ρ i) (Kp.of_below hb) (fun g _ hg => hb.block g hg) (h.ent i e hi).1, (h.ent i e hi).2⟩, h.apart, h.frame.below hb, h.fresh, h.fixd⟩

theorem getD_put (a : Act) (d i : Nat) (v : Value) (hd : d < a.tmps.size) : (a.put (some d) v).tmps.getD i undef = if d = i then v else a.tmps.getD i undef := by
  simp only [Act.put, Array.getD_eq_getD_getElem?, Array.getElem?_setIfInBounds]
  by_cases h : d = i
  · subst h; simp [hd]
  · simp [h]

theorem Is.put {X : Ctx} {L : AL} {B : BL} {a : Act} {ρ : Nat → Value} {w : World} (h : Is X L B a ρ w) {d : Nat} {s : Sl} {v : Value} (hd : d < X.n) (hv : s.p (Sof X B ρ) ρ w v) :
    Is X ((d, s) :: L) B (a.put (some d) v) ρ w := by
  refine ⟨by simp [Act.put, h.size], by simp [Act.put, h.defers], fun i t hi => ?_, h.ent, h.apart, h.frame, h.fresh, h.fixd⟩
  rw [getD_put _ _ _ _ (by rw [h.size]; exact hd)]
  by_cases hdi : d = i
  · subst hdi; rw [look_cons_eq] at hi; injection hi with hi; subst hi; simpa using hv
  · rw [look_cons_ne _ _ hdi] at hi; rw [if_neg hdi]; exact h.slot i t hi

theorem Is.sub {X : Ctx} {L L' : AL} {B : BL} {a : Act} {ρ : Nat → Value} {w : World} (h : Is X L B a ρ w) (hs : ∀ d s, look L' d = some s → s.p (Sof X B ρ) ρ w (a.tmps.getD d undef)) : Is X L' B a ρ w :=
  ⟨h.size, h.defers, hs, h.ent, h.apart, h.frame, h.fresh, h.fixd⟩

/-- The state, as a goal. -/
def Fin (X : Ctx) (L : AL) (B : BL) (K : Act → World → Prop) : Prop := ∀ a ρ w, Is X L B a ρ w → K a w
def St (X : Ctx) (L : AL) (B : BL) (c : Code) (Q : Exit → Act → World → Prop) : Prop := Fin X L B (c.wp X.P Q)

/-- The value of an operand. -/
def ev (L : AL) : Operand → Option Sl
  | .tmp t => look L t
  | .const v => some (.ct (.ex v))
  | .global g => some (.ct (.ex (.pointer (some ⟨g, 0, none⟩))))
  | .func f => some (.ct (.ex (.func (.func f) #[] #[])))

theorem Is.ev {X : Ctx} {L : AL} {B : BL} {a : Act} {ρ : Nat → Value} {w : World} (h : Is X L B a ρ w) {x : Operand} {s : Sl} (hx : ev L x = some s) : s.p (Sof X B ρ) ρ w (a.eval x) := by
  cases x with
  | tmp t => exact h.slot t s hx
  | const v => simp only [Own.ev] at hx; injection hx with hx; subst hx; rfl
  | global g => simp only [Own.ev] at hx; injection hx with hx; subst hx; rfl
  | func f => simp only [Own.ev] at hx; injection hx with hx; subst hx; rfl

theorem Is.evx {X : Ctx} {L : AL} {B : BL} {a : Act} {ρ : Nat → Value} {w : World} (h : Is X L B a ρ w) {x : Operand} {v : Value} (hx : Own.ev L x = some (.ct (.ex v))) : a.eval x = v := h.ev hx

end Go.Own
