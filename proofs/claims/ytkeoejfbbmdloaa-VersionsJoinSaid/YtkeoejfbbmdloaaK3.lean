/-
  The laws of states: new entries, entries that are written, entries that are frozen; guards; operations that only compute or read; calls.
-/
import Derived.Test.YtkeoejfbbmdloaaK2
namespace Go.Own
open Go.RowKit

variable {X : Ctx} {L : AL} {B : BL} {a : Act} {ρ : Nat → Value} {w : World}

def upd (ρ : Nat → Value) (i : Nat) (v : Value) : Nat → Value := fun j => if j = i then v else ρ j
theorem upd_eq (ρ : Nat → Value) (i : Nat) (v : Value) : upd ρ i v i = v := by simp [upd]
theorem upd_ne (ρ : Nat → Value) {i j : Nat} (v : Value) (h : j ≠ i) : upd ρ i v j = ρ j := by simp [upd, h]

theorem Ent.lt {S : BSet} {h : Value} {e : Ent} (ho : e.ok S w h) {g : Nat} (hg : blk h = some g) : g < w.heap.size := by
  have hrow : ∀ e k cs, (Ent.row e k cs).ok S w h → g < w.heap.size := fun e k cs ho => by
    obtain ⟨n, vs, how, _⟩ := ho
    rcases how.2 with ⟨rfl, _⟩ | ⟨g', cap, cur, rfl, _, h1, _⟩
    · cases hg
    · injection hg with hg; subst hg; exact heap_lt h1
  cases e with
  | box t cs => obtain ⟨g', vs, rfl, h1, _⟩ := ho; injection hg with hg; subst hg; exact heap_lt h1
  | row e k cs => exact hrow e k cs ho
  | rowx v e k cs => exact hrow e k cs ho.2

theorem Is.lt (h : Is X L B a ρ w) {i : Nat} {e : Ent} (hi : bget B i = some e) {g : Nat} (hg : blk (ρ i) = some g) : g < w.heap.size := Ent.lt (h.ent i e hi).1 hg

theorem Is.freshS (h : Is X L B a ρ w) : ∀ k, w.heap.size ≤ k → Sof X B ρ k := fun k hk =>
  ⟨h.fresh k (Nat.le_trans h.frame.size hk), fun _ _ hi hb => by have := h.lt hi hb; omega⟩

def noN (i : Nat) : AL → Bool
  | [] => true
  | (_, s) :: L => (match s with | .own j => !Nat.beq j i | .loc j _ => !Nat.beq j i | _ => true) && noN i L

theorem Sl.p_upd {S : BSet} {s : Sl} {v u : Value} {i : Nat} (hs : (match s with | .own j => !Nat.beq j i | .loc j _ => !Nat.beq j i | _ => true) = true) (h : s.p S ρ w v) : s.p S (upd ρ i u) w v := by
  cases s with
  | ct c => exact h
  | own j =>
    have hne : j ≠ i := fun e => by subst e; simp at hs
    show v = upd ρ i u j
    rw [upd_ne _ _ hne]; exact h
  | loc j o =>
    have hne : j ≠ i := fun e => by subst e; simp at hs
    obtain ⟨g, h1, h2⟩ := h
    exact ⟨g, by rw [upd_ne _ _ hne]; exact h1, h2⟩
  | any => trivial

theorem noN_look {i : Nat} : ∀ {L : AL} {d : Nat} {s : Sl}, noN i L = true → look L d = some s → (match s with | .own j => !Nat.beq j i | .loc j _ => !Nat.beq j i | _ => true) = true
  | [], _, _, _, h => by cases h
  | (k, t) :: L, d, s, hn, h => by
    simp only [noN, Bool.and_eq_true] at hn
    by_cases hk : k = d
    · subst hk; rw [look_cons_eq] at h; injection h with h; subst h; exact hn.1
    · rw [look_cons_ne _ _ hk] at h; exact noN_look hn.2 h

theorem kill_no (i : Nat) (s : Sl) : (match s.kill i with | .own j => !Nat.beq j i | .loc j _ => !Nat.beq j i | _ => true) = true := by
  cases s with
  | ct c => rfl
  | own j => simp only [Sl.kill]; cases h : Nat.beq j i <;> simp [h]
  | loc j o => simp only [Sl.kill]; cases h : Nat.beq j i <;> simp [h]
  | any => rfl

theorem Sl.p_kill {S : BSet} {s : Sl} {v : Value} {i : Nat} (h : s.p S ρ w v) : (s.kill i).p S ρ w v := by
  cases s with
  | ct c => exact h
  | own j => simp only [Sl.kill]; cases Nat.beq j i <;> first | exact h | trivial
  | loc j o => simp only [Sl.kill]; cases Nat.beq j i <;> first | exact h | trivial
  | any => trivial

/-- A new entry, in new memory. -/
theorem Is.new (h : Is X L B a ρ w) {i : Nat} (hN : noN i L = true) (hB : bget B i = none) {w' : World} (hw : Below w.heap.size w w') {v : Value} (hv : ∀ g, blk v = some g → w.heap.size ≤ g) {e : Ent}
    (he : ∀ S', Kp (Sof X B ρ) S' w w' → e.ok S' w' v) : Is X L ((i, e) :: B) a (upd ρ i v) w' := by
  have hne : ∀ j e', bget B j = some e' → j ≠ i := fun j e' hj he => by subst he; rw [hB] at hj; cases hj
  have hk : Kp (Sof X B ρ) (Sof X ((i, e) :: B) (upd ρ i v)) w w' := ⟨hw.size, fun k hk hs => ⟨⟨hs.1, fun j e' hj hb => by
    by_cases hji : j = i
    · subst hji; rw [upd_eq] at hb; have := hv k hb; omega
    · rw [bget_cons_ne _ _ (Ne.symm hji)] at hj; rw [upd_ne _ _ hji] at hb; exact hs.2 j e' hj hb⟩, hw.block k hk⟩⟩
  refine ⟨h.size, h.defers, fun d s hd => Sl.p_upd (noN_look hN hd) (Sl.mono hk (h.slot d s hd)), fun j e' hj => ?_, fun p q e1 e2 hp hq hpq g hg => ?_, h.frame.below hw, h.fresh, fun p hp => ?_⟩
  · by_cases hji : j = i
    · subst hji; rw [bget_cons_eq] at hj; injection hj with hj; subst hj; rw [upd_eq]
      exact ⟨he _ hk, fun g hg => .inl (Nat.le_trans h.frame.size (hv g hg))⟩
    · rw [bget_cons_ne _ _ (Ne.symm hji)] at hj; rw [upd_ne _ _ hji]
      exact ⟨Ent.keep hk (fun g _ hg => hw.block g hg) (h.ent j e' hj).1, (h.ent j e' hj).2⟩
  · by_cases h1 : p = i
    · subst h1; rw [upd_eq] at hg
      rw [bget_cons_ne _ _ hpq] at hq; rw [upd_ne _ _ (Ne.symm hpq)]
      intro hb; have := h.lt hq hb; have := hv g hg; omega
    · rw [bget_cons_ne _ _ (Ne.symm h1)] at hp; rw [upd_ne _ _ h1] at hg
      by_cases h2 : q = i
      · subst h2; rw [upd_eq]; intro hb; have := h.lt hp hg; have := hv g hb; omega
      · rw [bget_cons_ne _ _ (Ne.symm h2)] at hq; rw [upd_ne _ _ h2]; exact h.apart p q e1 e2 hp hq hpq g hg
  · obtain ⟨h1, h2⟩ := h.fixd p hp
    have hpi : p.1 ≠ i := fun e => by rw [e, hB] at h1; cases h1
    rw [bget_cons_ne _ _ (Ne.symm hpi), upd_ne _ _ hpi]; exact ⟨h1, h2⟩

/-- Entry i is written, and may have moved to new memory. -/
theorem Is.write (h : Is X L B a ρ w) {i : Nat} {e e' : Ent} (hi : bget B i = some e) {w' : World} (hos : w'.os = w.os) (htape : w'.tape = w.tape) (hout : w'.output = w.output) (hsize : w.heap.size ≤ w'.heap.size)
    (hblock : ∀ k, k < w.heap.size → blk (ρ i) ≠ some k → w'.heap[k]? = w.heap[k]?) {v : Value} (hv : blk v = blk (ρ i) ∨ ∀ g, blk v = some g → w.heap.size ≤ g)
    (he : ∀ S', Kp (Sof X B ρ) S' w w' → e'.ok S' w' v) (hL : v = ρ i ∨ noN i L = true) (hF : (v = ρ i ∧ isBx (some e) = isBx (some e')) ∨ isBx (some e) = false) : Is X L ((i, e') :: B) a (upd ρ i v) w' := by
  have hk : Kp (Sof X B ρ) (Sof X ((i, e') :: B) (upd ρ i v)) w w' := ⟨hsize, fun k hk hs => ⟨⟨hs.1, fun j e1 hj hb => by
    by_cases hji : j = i
    · subst hji; rw [upd_eq] at hb
      rcases hv with hv | hv
      · rw [hv] at hb; exact hs.2 j e hi hb
      · have := hv k hb; omega
    · rw [bget_cons_ne _ _ (Ne.symm hji)] at hj; rw [upd_ne _ _ hji] at hb; exact hs.2 j e1 hj hb⟩, hblock k hk (hs.2 i e hi)⟩⟩
  have hslot : ∀ d s, look L d = some s → s.p (Sof X ((i, e') :: B) (upd ρ i v)) (upd ρ i v) w' (a.tmps.getD d undef) := fun d s hd => by
    have h1 := Sl.mono hk (h.slot d s hd)
    rcases hL with rfl | hN
    · have : upd ρ i (ρ i) = ρ := by funext j; by_cases hj : j = i <;> simp [upd, hj]
      rw [this] at h1 ⊢; exact h1
    · exact Sl.p_upd (noN_look hN hd) h1
  refine ⟨h.size, h.defers, hslot, fun j e1 hj => ?_, fun p q e1 e2 hp hq hpq g hg => ?_, ?_, h.fresh, fun p hp => ?_⟩
  · by_cases hji : j = i
    · subst hji; rw [bget_cons_eq] at hj; injection hj with hj; subst hj; rw [upd_eq]
      refine ⟨he _ hk, fun g hg => ?_⟩
      rcases hv with hv | hv
      · rw [hv] at hg; exact (h.ent j e hi).2 g hg
      · exact .inl (Nat.le_trans h.frame.size (hv g hg))
    · rw [bget_cons_ne _ _ (Ne.symm hji)] at hj; rw [upd_ne _ _ hji]
      exact ⟨Ent.keep hk (fun g hg hlt => hblock g hlt (fun hb => h.apart j i e1 e hj hi hji g hg hb)) (h.ent j e1 hj).1, (h.ent j e1 hj).2⟩
  · by_cases h1 : p = i
    · subst h1; rw [upd_eq] at hg
      rw [bget_cons_ne _ _ hpq] at hq; rw [upd_ne _ _ (Ne.symm hpq)]
      rcases hv with hv | hv
      · rw [hv] at hg; exact h.apart p q e e2 hi hq hpq g hg
      · intro hb; have := h.lt hq hb; have := hv g hg; omega
    · rw [bget_cons_ne _ _ (Ne.symm h1)] at hp; rw [upd_ne _ _ h1] at hg
      by_cases h2 : q = i
      · subst h2; rw [upd_eq]
        rcases hv with hv | hv
        · rw [hv]; exact h.apart p q e1 e hp hi hpq g hg
        · intro hb; have := h.lt hp hg; have := hv g hb; omega
      · rw [bget_cons_ne _ _ (Ne.symm h2)] at hq; rw [upd_ne _ _ h2]; exact h.apart p q e1 e2 hp hq hpq g hg
  · refine ⟨hos.trans h.frame.os, htape.trans h.frame.tape, hout.trans h.frame.output, Nat.le_trans h.frame.size hsize, fun k hk hn => ?_⟩
    rw [hblock k (Nat.lt_of_lt_of_le hk h.frame.size) (fun hb => ?_), h.frame.block k hk hn]
    rcases (h.ent i e hi).2 k hb with h1 | h1
    · omega
    · exact hn h1
  · obtain ⟨h1, h2⟩ := h.fixd p hp
    by_cases hpi : p.1 = i
    · rw [hpi] at h1 h2 ⊢
      rw [hi] at h1
      rw [bget_cons_eq, upd_eq]
      rcases hF with ⟨hF1, hF2⟩ | hF
      · exact ⟨hF2 ▸ h1, hF1.trans h2⟩
      · rw [hF] at h1; cases h1
    · rw [bget_cons_ne _ _ (Ne.symm hpi), upd_ne _ _ hpi]; exact ⟨h1, h2⟩

def bset : BL → Nat → Ent → BL
  | [], _, _ => []
  | (j, e) :: B, i, f => match Nat.beq j i with | true => (j, f) :: B | false => (j, e) :: bset B i f
theorem bget_bset {i : Nat} {f e0 : Ent} : ∀ {B : BL}, bget B i = some e0 → ∀ j, bget (bset B i f) j = bget ((i, f) :: B) j
  | [], h, _ => by cases h
  | (q, e) :: B, h, j => by
    by_cases hq : q = i
    · subst hq
      simp only [bset, Nat.beq_refl]
      by_cases hj : q = j
      · subst hj; rw [bget_cons_eq, bget_cons_eq]
      · rw [bget_cons_ne _ _ hj, bget_cons_ne _ _ hj, bget_cons_ne _ _ hj]
    · rw [bget_cons_ne _ _ hq] at h
      have ih := bget_bset (f := f) h j
      simp only [bset, beq_ne hq]
      by_cases hj : q = j
      · subst hj; rw [bget_cons_eq, bget_cons_ne _ _ (Ne.symm hq), bget_cons_eq]
      · rw [bget_cons_ne _ _ hj, ih]
        by_cases hi : i = j
        · subst hi; rw [bget_cons_eq, bget_cons_eq]
        · rw [bget_cons_ne _ _ hi, bget_cons_ne _ _ hi, bget_cons_ne _ _ hj]
theorem Is.bext {B' : BL} (h : Is X L B a ρ w) (hb : ∀ j, bget B' j = bget B j) : Is X L B' a ρ w := by
  have hS : Sof X B' ρ = Sof X B ρ := by funext k; simp only [Sof, hb]
  refine ⟨h.size, h.defers, ?_, ?_, ?_, h.frame, h.fresh, fun p hp => by rw [hb]; exact h.fixd p hp⟩
  · rw [hS]; exact h.slot
  · rw [hS]; intro i e hi; rw [hb] at hi; exact h.ent i e hi
  · intro i j e e' hi hj; rw [hb] at hi hj; exact h.apart i j e e' hi hj

theorem Is.killL (h : Is X L B a ρ w) (i : Nat) : Is X (Own.killL i L) B a ρ w := h.sub fun d s hd => by
  rw [look_killL] at hd
  cases e : look L d with
  | none => rw [e] at hd; cases hd
  | some t => rw [e] at hd; injection hd with hd; subst hd; exact Sl.p_kill (h.slot d t e)

theorem noN_killL (i : Nat) : ∀ L : AL, noN i (Own.killL i L) = true
  | [] => rfl
  | (_, s) :: L => by simp only [Own.killL, noN, Bool.and_eq_true]; exact ⟨kill_no i s, noN_killL i L⟩

/-- An entry is frozen. -/
def frz (i : Nat) (T : Ty) : Sl → Sl
  | .own j => match Nat.beq j i with | true => .ct (.fr T) | false => .own j
  | s => s
def frzL (i : Nat) (T : Ty) : AL → AL
  | [] => []
  | (d, s) :: L => (d, frz i T s) :: frzL i T L
theorem look_frzL (i : Nat) (T : Ty) (L : AL) (d : Nat) : look (frzL i T L) d = (look L d).map (frz i T) := by
  induction L with
  | nil => rfl
  | cons x L ih =>
    obtain ⟨k, s⟩ := x
    by_cases hk : k = d
    · subst hk; simp [frzL, look]
    · simp only [frzL]; rw [look_cons_ne _ _ hk, look_cons_ne _ _ hk, ih]

/-- What an entry reads as once it is frozen. -/
def Ent.frozen : Ent → Ty → Prop
  | .box _ cs, T => T = ptrT cs
  | .row _ k cs, T => ∃ es : List (List CT), cs = es.flatten ∧ (∀ e ∈ es, e.length = k) ∧ 0 < k ∧ T = sliceT k es
  | .rowx _ _ _ _, _ => False

theorem flatten_length {α : Type} {k : Nat} : ∀ {es : List (List α)}, (∀ e ∈ es, e.length = k) → es.flatten.length = es.length * k
  | [], _ => by simp
  | e :: es, h => by
    rw [List.flatten_cons, List.length_append, flatten_length fun x hx => h x (List.mem_cons_of_mem _ hx), h e (List.mem_cons_self ..), List.length_cons, Nat.add_mul]; omega

theorem Ent.frozen_p {S : BSet} {h : Value} {e : Ent} {T : Ty} (hT : e.frozen T) (ho : e.ok S w h) (hS : ∀ g, blk h = some g → S g) : T.p S w h := by
  cases e with
  | box t cs =>
    obtain rfl := hT
    obtain ⟨g, vs, rfl, hg, hc⟩ := ho
    refine ⟨g, 0, rfl, hS g rfl, heap_lt hg, vs, hc, fun i u hu => ?_⟩
    simp [World.cell?, hg, hu]
  | row e k cs =>
    obtain ⟨es, rfl, hk, hpos, rfl⟩ := hT
    obtain ⟨n, vs, how, hc⟩ := ho
    have hl := hc.length
    rw [flatten_length hk, how.1] at hl
    have hn : n = es.length := Nat.eq_of_mul_eq_mul_right hpos hl
    subst hn
    rcases how.2 with ⟨rfl, h0⟩ | ⟨g, cap, cur, rfl, _, hg, h1, h2, h3, h4⟩
    · have he : es = [] := List.length_eq_zero_iff.1 h0
      subst he
      exact ⟨none, 0, rfl, Nat.le_refl _, Nat.zero_le _, hk, fun hne => absurd rfl hne⟩
    · refine ⟨_, cap, rfl, h1, h2, hk, fun _ => ⟨g, 0, rfl, hS g rfl, heap_lt hg, vs, hc, fun i u hu => ?_⟩⟩
      have : cur[i]? = some u := by
        rw [← h4, List.getElem?_take] at hu
        split at hu
        · simpa using hu
        · cases hu
      simp [World.cell?, hg, this]
  | rowx v e k cs => exact hT.elim

theorem Is.freeze (h : Is X L B a ρ w) {i : Nat} {e : Ent} {T : Ty} (hi : bget B i = some e) (hT : e.frozen T) (hS : ∀ g, X.bor g → X.S0 g) (hf : noFix X i = true) : Is X (frzL i T L) (bdel B i) a ρ w := by
  refine (h.dropB i hf).sub fun d s hd => ?_
  rw [look_frzL] at hd
  cases e1 : look L d with
  | none => rw [e1] at hd; cases hd
  | some t =>
    rw [e1] at hd; injection hd with hd; subst hd
    have h1 := (h.dropB i hf).slot d t e1
    cases t with
    | own j =>
      simp only [frz]
      cases hb : Nat.beq j i with
      | false => exact h1
      | true =>
        have := Nat.eq_of_beq_eq_true hb
        subst this
        have h2 : a.tmps.getD d undef = ρ j := h1
        show T.p _ w (a.tmps.getD d undef)
        rw [h2]
        refine T.mono (S := fun k => Sof X B ρ k ∨ blk (ρ j) = some k) ⟨Nat.le_refl _, fun k _ hs => ⟨?_, rfl⟩⟩ (Ent.frozen_p hT (Ent.keep ⟨Nat.le_refl _, fun k _ hs => ⟨.inl hs, rfl⟩⟩ (fun _ _ _ => rfl) (h.ent j e hi).1) (fun g hg => .inr hg))
        rcases hs with hs | hs
        · exact ⟨hs.1, fun p e' hp => hs.2 p e' (by
            by_cases hpj : p = j
            · subst hpj; rw [bget_bdel_eq] at hp; cases hp
            · rwa [bget_bdel_ne _ hpj] at hp)⟩
        · refine ⟨?_, fun p e' hp hb' => ?_⟩
          · rcases (h.ent j e hi).2 k hs with h3 | h3
            · exact h.fresh k h3
            · exact hS k h3
          · by_cases hpj : p = j
            · subst hpj; rw [bget_bdel_eq] at hp; cases hp
            · rw [bget_bdel_ne _ hpj] at hp
              exact h.apart j p e e' hi hp (Ne.symm hpj) k hs hb'
    | ct c => exact h1
    | loc j o => exact h1
    | any => trivial

theorem Fin.freeze {K : Act → World → Prop} (i : Nat) {e : Ent} (T : Ty) (hi : bget B i = some e) (hT : e.frozen T) (hS : ∀ g, X.bor g → X.S0 g) (h : Fin X (frzL i T L) (bdel B i) K) (hf : noFix X i = true := by rfl) : Fin X L B K := fun a ρ w hI => h a ρ w (hI.freeze hi hT hS hf)

/-! ### Guards -/

def gd (ops : Array Oper) (L : AL) : Option (Nat × Bool) → Option Bool
  | none => some true
  | some (j, want) => match (ops[j]?).bind (·.dst) with
    | some d => match look L d with
      | some (.ct (.ex (.bool b))) => some (b == want)
      | some (.ct (.ex (.tuple _))) => some false
      | _ => none
    | none => none

theorem gd_spec {ops : Array Oper} {o : Oper} {t : Bool} (h : Is X L B a ρ w) (hg : gd ops L o.guard = some t) : Region.wanted o (yielded ops a.tmps) = t := by
  unfold Region.wanted
  cases e : o.guard with
  | none => rw [e] at hg; injection hg
  | some x =>
    obtain ⟨j, want⟩ := x
    rw [e] at hg
    simp only [gd] at hg
    simp only [yielded]
    cases e2 : (ops[j]?).bind (·.dst) with
    | none => rw [e2] at hg; cases hg
    | some d =>
      rw [e2] at hg
      simp only [Option.bind_some] at hg ⊢
      split at hg
      · rename_i b hb
        injection hg with hg
        have h1 : a.tmps.getD d undef = .bool b := h.slot d _ hb
        have h2 : a.tmps[d]? = some (.bool b) := by
          rw [Array.getD_eq_getD_getElem?] at h1
          cases h3 : a.tmps[d]? with
          | none => rw [h3] at h1; cases h1
          | some u => rw [h3] at h1; exact congrArg some h1
        rw [h2, ← hg]
        cases b <;> cases want <;> rfl
      · rename_i vs hb
        injection hg with hg
        have h1 : a.tmps.getD d undef = .tuple vs := h.slot d _ hb
        rw [Array.getD_eq_getD_getElem?] at h1
        cases h3 : a.tmps[d]? with
        | none => simp [← hg]
        | some u => rw [h3] at h1; simp only [Option.getD_some] at h1; subst h1; simp [← hg]
      · cases hg

variable {ops : Array Oper} {K : Act → World → Prop} {r : Pl} {k : Kd}

theorem lt_of_blt {a b : Nat} (h : Nat.blt a b = true) : a < b := by rwa [Nat.blt_eq] at h

theorem Ops.skip {o : Oper} {d : Nat} (hg : gd ops L o.guard = some false) (hd : o.dst = some d) (hn : Nat.blt d X.n = true) (h : Ops X ops r ((d, .ct (.ex undef)) :: L) B K) : Ops X ops (.cons o k r) L B K := fun a ρ w hI => by
  refine wpX_pure k (v := undef) (.inr ⟨gd_spec hI hg, rfl⟩) ?_
  rw [hd]; exact h _ ρ w (hI.put (lt_of_blt hn) rfl)

/-- An operation that only computes. -/
theorem Ops.val {o : Oper} {d : Nat} {s : Sl} (hg : gd ops L o.guard = some true) (hd : o.dst = some d) (hn : Nat.blt d X.n = true)
    (hv : ∀ a ρ w, Is X L B a ρ w → ∃ v, (∀ w', True → (execOp a.eval o).run X.P w' = .ok (.value v) w') ∧ s.p (Sof X B ρ) ρ w v)
    (h : Ops X ops r ((d, s) :: L) B K) : Ops X ops (.cons o k r) L B K := fun a ρ w hI => by
  obtain ⟨v, h1, h2⟩ := hv a ρ w hI
  refine wpX_pure k (v := v) (.inl ⟨gd_spec hI hg, fun w' => h1 w' trivial⟩) ?_
  rw [hd]; exact h _ ρ w (hI.put (lt_of_blt hn) h2)
/-- An operation that only reads. -/
theorem Ops.rd {o : Oper} {d : Nat} {s : Sl} (hk : k.rd = true) (hg : gd ops L o.guard = some true) (hd : o.dst = some d) (hn : Nat.blt d X.n = true)
    (hv : ∀ a ρ w, Is X L B a ρ w → ∃ v, (∀ w', Below w.heap.size w w' → (execOp a.eval o).run X.P w' = .ok (.value v) w') ∧ s.p (Sof X B ρ) ρ w v)
    (h : Ops X ops r ((d, s) :: L) B K) : Ops X ops (.cons o k r) L B K := fun a ρ w hI => by
  obtain ⟨v, h1, h2⟩ := hv a ρ w hI
  refine wpX_yields k hk (v := v) (.inl ⟨gd_spec hI hg, h1⟩) ?_
  rw [hd]; exact h _ ρ w (hI.put (lt_of_blt hn) h2)

/-- A guard whose answer is not known. -/
theorem Ops.split {o : Oper} (d : Nat) {b : Bool} (hs : look L d = some (.ct (.ex (.bool b)))) (h1 : b = true → Ops X ops (.cons o k r) ((d, .ct (.ex (.bool true))) :: L) B K) (h2 : b = false → Ops X ops (.cons o k r) ((d, .ct (.ex (.bool false))) :: L) B K) : Ops X ops (.cons o k r) L B K := by
  intro a ρ w hI
  have hsl := hI.slot d _ hs
  have key : ∀ b', b = b' → Is X ((d, .ct (.ex (.bool b'))) :: L) B a ρ w := fun b' e => hI.sub fun i t hi => by
    by_cases hdi : d = i
    · subst hdi; rw [look_cons_eq] at hi; injection hi with hi; subst hi; subst e; exact hsl
    · rw [look_cons_ne _ _ hdi] at hi; exact hI.slot i t hi
  cases e : b with
  | true => exact h1 e a ρ w (key true e)
  | false => exact h2 e a ρ w (key false e)

/-! ### Moving values -/

variable {x y z : Operand} {d : Nat} {t t2 t' : TypeId} {pos : String} {af : Array Edge} {g : Option (Nat × Bool)}

theorem Ops.move {s : Sl} (hg : gd ops L g = some true) (hx : ev L x = some s) (hn : Nat.blt d X.n = true) (h : Ops X ops r ((d, s) :: L) B K) : Ops X ops (.cons ⟨some d, .move x, t, pos, af, g⟩ k r) L B K :=
  Ops.val hg rfl hn (fun a _ _ hI => ⟨a.eval x, fun _ _ => rfl, hI.ev hx⟩) h
theorem Ops.assign {s : Sl} (hg : gd ops L g = some true) (hx : ev L x = some s) (hn : Nat.blt d X.n = true) (h : Ops X ops r ((d, s) :: L) B K) : Ops X ops (.cons ⟨some d, .assign x, t, pos, af, g⟩ k r) L B K :=
  Ops.val hg rfl hn (fun a _ _ hI => ⟨a.eval x, fun _ _ => rfl, hI.ev hx⟩) h
theorem Ops.pickT {s : Sl} (hg : gd ops L g = some true) (hx : ev L x = some (.ct (.ex (.bool true)))) (hy : ev L y = some s) (hn : Nat.blt d X.n = true) (h : Ops X ops r ((d, s) :: L) B K) : Ops X ops (.cons ⟨some d, .pick x y z, t, pos, af, g⟩ k r) L B K :=
  Ops.val hg rfl hn (fun a _ w hI => ⟨a.eval y, fun w' _ => by simp [execOp, hI.evx hx, asBool], hI.ev hy⟩) h
theorem Ops.pickF {s : Sl} (hg : gd ops L g = some true) (hx : ev L x = some (.ct (.ex (.bool false)))) (hz : ev L z = some s) (hn : Nat.blt d X.n = true) (h : Ops X ops r ((d, s) :: L) B K) : Ops X ops (.cons ⟨some d, .pick x y z, t, pos, af, g⟩ k r) L B K :=
  Ops.val hg rfl hn (fun a _ w hI => ⟨a.eval z, fun w' _ => by simp [execOp, hI.evx hx, asBool], hI.ev hz⟩) h

/-! ### Numbers and bools -/

theorem run_v {P : Program} {s : Sem Value} {v : Value} {w w' : World} (h : s.run P w = .ok v w') : (do pure (Next.value (← s)) : Sem Next).run P w = .ok (.value v) w' := by simp [h]

/-- What a binary operation on two integers gives. -/
structure IBin (op : BinOp) (k1 : IntKind) (p : Int) (k2 : IntKind) (q : Int) (v : Value) : Prop where
  run : ∀ (P : Program) (t : TypeId) (x y : Operand) (w : World), (do eqGuard op t x y (.int k1 p) (.int k2 q); binOp op t (.int k1 p) (.int k2 q) : Sem Value).run P w = .ok v w

theorem Ops.ibin {op : BinOp} {k1 k2 : IntKind} {p q : Int} {v : Value} (hv : IBin op k1 p k2 q v) (hg : gd ops L g = some true) (hx : ev L x = some (.ct (.ex (.int k1 p)))) (hy : ev L y = some (.ct (.ex (.int k2 q)))) (hn : Nat.blt d X.n = true)
    (h : Ops X ops r ((d, .ct (.ex v)) :: L) B K) : Ops X ops (.cons ⟨some d, .binOp op t x y t2, t', pos, af, g⟩ k r) L B K :=
  Ops.val (s := .ct (.ex v)) hg rfl hn (fun a _ w hI => ⟨v, fun w' _ => by
    show (do pure (Next.value (← (do eqGuard op t x y (a.eval x) (a.eval y); binOp op t (a.eval x) (a.eval y) : Sem Value))) : Sem Next).run X.P w' = _
    rw [hI.evx hx, hI.evx hy]; exact run_v (hv.run X.P t x y w'), rfl⟩) h

theorem IBin.of {op : BinOp} {k1 k2 : IntKind} {p q : Int} {v : Value} (h : ∀ (P : Program) (t : TypeId) (w : World), (binOp op t (.int k1 p) (.int k2 q)).run P w = .ok v w) : IBin op k1 p k2 q v := ⟨fun P t x y w => by
  have : (eqGuard op t x y (.int k1 p) (.int k2 q)).run P w = .ok () w := by
    unfold eqGuard
    cases op <;> rfl
  simp [this, h]⟩

theorem wrap_id {n : Int} (h1 : -9223372036854775808 ≤ n) (h2 : n ≤ 9223372036854775807) : IntKind.i64.wrap n = n := by rw [IntKind.wrap_i64]; omega

theorem iadd {p q : Int} (h1 : -9223372036854775808 ≤ p + q) (h2 : p + q ≤ 9223372036854775807) : IBin .add .i64 p .i64 q (.int .i64 (p + q)) := .of fun P t w => by
  show (Op.intArith .add .i64 p q).run P w = _
  simp [Op.intArith, wrap_id h1 h2]
theorem isub {p q : Int} (h1 : -9223372036854775808 ≤ p - q) (h2 : p - q ≤ 9223372036854775807) : IBin .sub .i64 p .i64 q (.int .i64 (p - q)) := .of fun P t w => by
  show (Op.intArith .sub .i64 p q).run P w = _
  simp [Op.intArith, wrap_id h1 h2]
theorem imul {p q : Int} (h1 : -9223372036854775808 ≤ p * q) (h2 : p * q ≤ 9223372036854775807) : IBin .mul .i64 p .i64 q (.int .i64 (p * q)) := .of fun P t w => by
  show (Op.intArith .mul .i64 p q).run P w = _
  simp [Op.intArith, wrap_id h1 h2]
theorem iquo {p q : Int} (h0 : 0 ≤ p) (hq : 0 < q) (h2 : p ≤ 9223372036854775807) : IBin .quo .i64 p .i64 q (.int .i64 (p / q)) := .of fun P t w => by
  show (Op.intDiv .quo .i64 p q).run P w = _
  have h3 : p / q ≤ p := Int.ediv_le_self q h0
  have h4 : 0 ≤ p / q := Int.ediv_nonneg h0 (by omega)
  simp [Op.intDiv, show q ≠ 0 by omega, Int.tdiv_eq_ediv_of_nonneg h0, wrap_id (n := p / q) (by omega) (by omega)]
theorem irem {p q : Int} (h0 : 0 ≤ p) (hq : 0 < q) : IBin .rem .i64 p .i64 q (.int .i64 (p % q)) := .of fun P t w => by
  show (Op.intDiv .rem .i64 p q).run P w = _
  simp [Op.intDiv, show q ≠ 0 by omega, Int.tmod_eq_emod_of_nonneg h0]
theorem ilss {k1 : IntKind} {p q : Int} : IBin .lss k1 p k1 q (.bool (decide (p < q))) := .of fun P t w => by
  show (if k1 ≠ k1 then stuck _ else Op.intCmp .lss p q : Sem Value).run P w = _
  simp [Op.intCmp]
theorem ileq {k1 : IntKind} {p q : Int} : IBin .leq k1 p k1 q (.bool (decide (p ≤ q))) := .of fun P t w => by
  show (if k1 ≠ k1 then stuck _ else Op.intCmp .leq p q : Sem Value).run P w = _
  simp [Op.intCmp]
theorem igtr {k1 : IntKind} {p q : Int} : IBin .gtr k1 p k1 q (.bool (decide (q < p))) := .of fun P t w => by
  show (if k1 ≠ k1 then stuck _ else Op.intCmp .gtr p q : Sem Value).run P w = _
  simp [Op.intCmp]
theorem igeq {k1 : IntKind} {p q : Int} : IBin .geq k1 p k1 q (.bool (decide (q ≤ p))) := .of fun P t w => by
  show (if k1 ≠ k1 then stuck _ else Op.intCmp .geq p q : Sem Value).run P w = _
  simp [Op.intCmp]
theorem ieql {k1 : IntKind} {p q : Int} : IBin .eql k1 p k1 q (.bool (decide (p = q))) := .of fun P t w => by
  show (if k1 ≠ k1 then stuck _ else Op.intCmp .eql p q : Sem Value).run P w = _
  simp [Op.intCmp]; exact Bool.eq_iff_iff.2 (by simp)
theorem ineq {k1 : IntKind} {p q : Int} : IBin .neq k1 p k1 q (.bool (decide (p ≠ q))) := .of fun P t w => by
  show (if k1 ≠ k1 then stuck _ else Op.intCmp .neq p q : Sem Value).run P w = _
  simp [Op.intCmp, bne]; exact Bool.eq_iff_iff.2 (by simp)

theorem Ops.inot {b : Bool} (hg : gd ops L g = some true) (hx : ev L x = some (.ct (.ex (.bool b)))) (hn : Nat.blt d X.n = true) (h : Ops X ops r ((d, .ct (.ex (.bool (!b)))) :: L) B K) : Ops X ops (.cons ⟨some d, .unOp .not t x, t', pos, af, g⟩ k r) L B K :=
  Ops.val (s := .ct (.ex (.bool (!b)))) hg rfl hn (fun a _ w hI => ⟨.bool (!b), fun w' _ => by
    show (do pure (Next.value (← Op.unary .not (a.eval x))) : Sem Next).run X.P w' = _
    rw [hI.evx hx]; rfl, rfl⟩) h
theorem Ops.ineg {p : Int} (hg : gd ops L g = some true) (hx : ev L x = some (.ct (.ex (.int .i64 p)))) (h1 : -9223372036854775807 ≤ p) (h2 : p ≤ 9223372036854775807) (hn : Nat.blt d X.n = true) (h : Ops X ops r ((d, .ct (.ex (.int .i64 (-p)))) :: L) B K) : Ops X ops (.cons ⟨some d, .unOp .neg t x, t', pos, af, g⟩ k r) L B K :=
  Ops.val (s := .ct (.ex (.int .i64 (-p)))) hg rfl hn (fun a _ w hI => ⟨.int .i64 (-p), fun w' _ => by
    show (do pure (Next.value (← Op.unary .neg (a.eval x))) : Sem Next).run X.P w' = _
    rw [hI.evx hx]; simp [Op.unary, Op.intArith, wrap_id (n := -p) (by omega) (by omega)], rfl⟩) h

/-! ### Calls -/

theorem Ok.fits {P : Program} {f : FuncId} {As As' : List CT} {R R' : CT} (h : Ok P f As R) (ha : As' = As) (hr : R = R') : Ok P f As' R' := by subst ha; subst hr; exact h

/-- Function f is written in Go. -/
def InGo (P : Program) (f : FuncId) : Prop := ∀ (args : Array Value) (w : World), (callFunc f args).run P w = .ok (.enter f args) w
theorem InGo.of {P : Program} {f : FuncId} {fn : Func} (hf : P.funcs[f]? = some fn) (hb : fn.body.isNone = false) (hn : (fn.name == "runtime.NumGoroutine") = false) : InGo P f := fun args w => by
  simp only [callFunc, program, Sem.run_bind]
  show (match P.funcs[f]? with | none => _ | some fn => _ : Sem Next).run P w = _
  rw [hf]
  simp only [hn, hb, Bool.false_eq_true, if_false]
  rfl

def evs (L : AL) : List Operand → Option (List CT)
  | [] => some []
  | x :: xs => match ev L x, evs L xs with
    | some (.ct c), some cs => some (c :: cs)
    | _, _ => none

theorem Is.evs (h : Is X L B a ρ w) : ∀ {xs : List Operand} {cs : List CT}, Own.evs L xs = some cs → cells (Sof X B ρ) w cs (xs.map a.eval)
  | [], cs, he => by simp only [Own.evs] at he; injection he with he; subst he; trivial
  | x :: xs, cs, he => by
    simp only [Own.evs] at he
    split at he
    · rename_i c cs' h1 h2
      injection he with he; subst he
      exact ⟨h.ev h1, h.evs h2⟩
    · cases he

theorem Ops.callWith {f : FuncId} {args : List Operand} {tys : Array TypeId} {As : List CT} {R : CT} (hgo : InGo X.P f) (hok : Ok X.P f As R) (hg : gd ops L g = some true) (hk : k.mk = true) (hn : Nat.blt d X.n = true)
    (hx : ∀ a ρ w, Is X L B a ρ w → ∃ caps : List Value, a.eval x = .func (.func f) #[] caps.toArray ∧ cells (Sof X B ρ) w As (args.map a.eval ++ caps))
    (h : Ops X ops r ((d, .ct R) :: L) B K) : Ops X ops (.cons ⟨some d, .call { callee := .value x, args := args.toArray, argTypes := tys }, t, pos, af, g⟩ k r) L B K := fun a ρ w hI => by
  refine wpX_makes k hk ?_
  unfold wpO
  rw [if_pos (gd_spec (o := ⟨some d, _, t, pos, af, g⟩) hI hg)]
  obtain ⟨cp, hf, hc⟩ := hx a ρ w hI
  unfold Oper.wp
  have hrun : (execOp a.eval ⟨some d, .call { callee := .value x, args := args.toArray, argTypes := tys }, t, pos, af, g⟩).run X.P w = .ok (.enter f (args.map a.eval ++ cp).toArray) w := by
    show (do let D ← resolve a.eval { callee := .value x, args := args.toArray, argTypes := tys } t; invoke D.target D.args : Sem Next).run X.P w = _
    simp only [resolve, hf, Deferred.ofValue, Sem.run_bind, Sem.run_pure, Result.andThen_ok, invoke]
    rw [hgo]
    congr 2
    simp
  rw [hrun]
  refine Calls.mono (hok (Sof X B ρ) w _ hI.freshS hc) ?_
  rintro e w' ⟨v, rfl, hv, hb⟩
  exact ⟨hb, h _ ρ w' ((hI.below hb).put (lt_of_blt hn) hv)⟩

theorem Ops.call {f : FuncId} {args : List Operand} {tys : Array TypeId} {As : List CT} {R : CT} (hgo : InGo X.P f) (hok : Ok X.P f As R) (hg : gd ops L g = some true) (hargs : evs L args = some As) (hk : k.mk = true) (hn : Nat.blt d X.n = true)
    (h : Ops X ops r ((d, .ct R) :: L) B K) : Ops X ops (.cons ⟨some d, .call { callee := .value (.func f), args := args.toArray, argTypes := tys }, t, pos, af, g⟩ k r) L B K :=
  Ops.callWith (x := .func f) hgo hok hg hk hn (fun a _ _ hI => ⟨[], rfl, by rw [List.append_nil]; exact hI.evs hargs⟩) h

/-- A function value with what it has captured. -/
def closT (f : FuncId) (cs : List CT) : Ty where
  p S w v := ∃ vs : List Value, v = .func (.func f) #[] vs.toArray ∧ cells S w cs vs
  mono h := fun ⟨vs, a, b⟩ => ⟨vs, a, b.mono h⟩
  one := true
  hone _ := by rintro _ _ _ ⟨vs, rfl, _⟩; rfl

theorem Ops.callC {f : FuncId} {args : List Operand} {tys : Array TypeId} {As cs : List CT} {R : CT} (hgo : InGo X.P f) (hx : ev L x = some (.ct (.fr (closT f cs)))) (hok : Ok X.P f (As ++ cs) R) (hg : gd ops L g = some true) (hargs : evs L args = some As) (hk : k.mk = true) (hn : Nat.blt d X.n = true)
    (h : Ops X ops r ((d, .ct R) :: L) B K) : Ops X ops (.cons ⟨some d, .call { callee := .value x, args := args.toArray, argTypes := tys }, t, pos, af, g⟩ k r) L B K :=
  Ops.callWith hgo hok hg hk hn (fun a _ _ hI => by
    obtain ⟨vs, h1, h2⟩ := hI.ev hx
    exact ⟨vs, h1, (hI.evs hargs).append h2⟩) h
theorem Ops.callF {f : FuncId} {args : List Operand} {tys : Array TypeId} {As : List CT} {R : CT} (hgo : InGo X.P f) (hx : ev L x = some (.ct (.ex (.func (.func f) #[] #[])))) (hok : Ok X.P f As R) (hg : gd ops L g = some true) (hargs : evs L args = some As) (hk : k.mk = true) (hn : Nat.blt d X.n = true)
    (h : Ops X ops r ((d, .ct R) :: L) B K) : Ops X ops (.cons ⟨some d, .call { callee := .value x, args := args.toArray, argTypes := tys }, t, pos, af, g⟩ k r) L B K :=
  Ops.callWith hgo hok hg hk hn (fun a _ _ hI => ⟨[], hI.evx hx, by rw [List.append_nil]; exact hI.evs hargs⟩) h

end Go.Own
