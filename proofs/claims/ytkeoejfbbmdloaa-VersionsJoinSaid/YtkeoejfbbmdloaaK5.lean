/-
  The laws of operations that write or make memory, and of returning.
-/
import Derived.Test.YtkeoejfbbmdloaaK4
namespace Go.Own
open Go.RowKit

variable {X : Ctx} {L : AL} {B : BL} {ops : Array Oper} {K : Act → World → Prop} {r : Pl} {k : Kd}
  {x y z : Operand} {d : Nat} {t t2 t' : TypeId} {pos : String} {af : Array Edge} {g : Option (Nat × Bool)}

/-! ### Stores -/

def spl {α : Type} (cs : List α) (o : Nat) (ds : List α) : List α := cs.take o ++ ds ++ cs.drop (o + ds.length)
theorem spl_length {α : Type} {cs : List α} {o : Nat} {ds : List α} (h : o + ds.length ≤ cs.length) : (spl cs o ds).length = cs.length := by simp [spl]; omega
theorem spl_one {α : Type} {cs : List α} {o : Nat} {c : α} (h : o < cs.length) : spl cs o [c] = cs.set o c := by
  rw [List.set_eq_take_append_cons_drop, if_pos h]; simp [spl]
theorem cells.spl {S : BSet} {w : World} {cs ds : List CT} {vs us : List Value} {o : Nat} (h : cells S w cs vs) (hd : cells S w ds us) : cells S w (Own.spl cs o ds) (Own.spl vs o us) := by
  unfold Own.spl; rw [hd.length]; exact ((h.take o).append hd).append (h.drop _)

def Ent.putc : Ent → Nat → List CT → Ent
  | .box t cs, o, ds => .box t (spl cs o ds)
  | .row e n cs, o, ds => .row e n (spl cs o ds)
  | .rowx v e n cs, o, ds => .rowx v e n (spl cs o ds)

theorem take_spl {cur vs us : List Value} {o : Nat} (h : cur.take vs.length = vs) (hl : o + us.length ≤ vs.length) : (cur.take o ++ us ++ cur.drop (o + us.length)).take vs.length = spl vs o us := by
  have hvc : vs.length ≤ cur.length := by have := congrArg List.length h; simp at this; omega
  unfold spl
  have h1 : vs.take o = cur.take o := by rw [← h, List.take_take]; congr 1; omega
  have h2 : vs.drop (o + us.length) = (cur.drop (o + us.length)).take (vs.length - (o + us.length)) := by rw [List.take_drop]; rw [show o + us.length + (vs.length - (o + us.length)) = vs.length by omega, h]
  rw [h1, h2, List.take_append, List.take_of_length_le (by simp; omega)]
  congr 2
  simp; omega

theorem Ent.put_ok {S S' : BSet} {w : World} {hd : Value} {e : Ent} {ds : List CT} {us : List Value} {o gb tt : Nat} {cur : Array Value} (ho : e.ok S w hd) (hb : blk hd = some gb) (hh : w.heap[gb]? = some (.cells cur tt (0, 0)))
    (hds : cells S w ds us) (hle : o + ds.length ≤ e.cs.length) (hk : Kp S S' w (w.setRow gb (cur.toList.take o ++ us ++ cur.toList.drop (o + us.length)).toArray)) :
    (e.putc o ds).ok S' (w.setRow gb (cur.toList.take o ++ us ++ cur.toList.drop (o + us.length)).toArray) hd := by
  have hlu := hds.length
  have hrow : ∀ e n cs, o + ds.length ≤ cs.length → (Ent.row e n cs).ok S w hd → (Ent.row e n (spl cs o ds)).ok S' (w.setRow gb (cur.toList.take o ++ us ++ cur.toList.drop (o + us.length)).toArray) hd := fun e n cs hle ho => by
    obtain ⟨m, vs, how, h2⟩ := ho
    have hlv := h2.length
    have hle' : o + us.length ≤ vs.length := by rw [hlu, hlv]; exact hle
    refine ⟨m, spl vs o us, ⟨by rw [spl_length hle']; exact how.1, ?_⟩, (h2.spl hds).mono hk⟩
    rcases how.2 with ⟨rfl, _⟩ | ⟨g', cap, cur', rfl, h3, h4, h5, h6, h7, h8⟩
    · cases hb
    · injection hb with hb; subst hb
      rw [h4] at hh
      injection hh with hh
      injection hh with hc ht
      subst hc; subst ht
      refine .inr ⟨g', cap, _, rfl, h3, setRow_heap _ _ _ _ _ _ h4, h5, h6, ?_, ?_⟩
      · have hvc : vs.length ≤ cur'.size := by rw [h7, how.1]; exact Nat.mul_le_mul_right _ h5
        simp [← h7]; omega
      · rw [← how.1] at h8 ⊢
        exact take_spl h8 hle'
  cases e with
  | box t cs =>
    obtain ⟨g', vs, rfl, h1, h2⟩ := ho
    injection hb with hb; subst hb
    rw [h1] at hh
    injection hh with hh
    injection hh with hc ht
    subst hc; subst ht
    refine ⟨g', spl vs o us, rfl, ?_, (h2.spl hds).mono hk⟩
    rw [setRow_heap _ _ _ _ _ _ h1]
    simp [spl]
  | row e n cs => exact hrow e n cs hle ho
  | rowx v e n cs => exact ⟨ho.1, hrow e n cs hle ho.2⟩

theorem put_none (a : Act) (v : Value) : a.put none v = a := rfl

theorem upd_self (ρ : Nat → Value) (i : Nat) : upd ρ i (ρ i) = ρ := by funext j; by_cases hj : j = i <;> simp [upd, hj]

theorem Ops.stG {i o : Nat} {e : Ent} {ds : List CT} {s : Sl} (hg : gd ops L g = some true) (hx : ev L x = some s) (hs : s = .loc i o ∨ (s = .own i ∧ o = 0 ∧ ∃ tt cs, e = .box tt cs)) (hi : bget B i = some e)
    (hy : ∀ a ρ w, Is X L B a ρ w → ∃ us, (a.eval y).cells = us.toArray ∧ cells (Sof X B ρ) w ds us ∧ ∀ v ∈ us, v.oneCell' = true) (hsz : (X.P.info? t).map (·.size) = some ds.length) (hle : o + ds.length ≤ e.cs.length)
    (h : Ops X ops r L (bset B i (e.putc o ds)) K) : Ops X ops (.cons ⟨none, .store t x y, t', pos, af, g⟩ .any r) L B K := fun a ρ w hI => by
  show wpO _ _ _ _ _ _
  unfold wpO
  rw [if_pos (gd_spec (o := ⟨none, _, t', pos, af, g⟩) hI hg)]
  obtain ⟨us, h1, h2, h3⟩ := hy a ρ w hI
  have hax : ∃ gb, blk (ρ i) = some gb ∧ a.eval x = .pointer (some ⟨gb, o, none⟩) := by
    rcases hs with rfl | ⟨rfl, rfl, tt, cs, rfl⟩
    · exact hI.ev hx
    · obtain ⟨gb, vs, h4, _⟩ := (hI.ent i _ hi).1
      exact ⟨gb, by rw [h4]; rfl, by rw [← h4]; exact hI.ev hx⟩
  obtain ⟨gb, h4, h5⟩ := hax
  obtain ⟨cur, tt, vs, h6, h7, h8⟩ := Ent.raw (hI.ent i e hi).1 h4
  have hlu := h2.length
  have hlv := h7.length
  have hvc : vs.length ≤ cur.size := by have := congrArg List.length h8; simp at this; omega
  obtain ⟨inf, h9, h10⟩ : ∃ inf, X.P.info? t = some inf ∧ inf.size = ds.length := by
    cases e1 : X.P.info? t with
    | none => rw [e1] at hsz; cases hsz
    | some inf => rw [e1] at hsz; injection hsz with hsz; exact ⟨inf, rfl, hsz⟩
  have hrun : (execOp a.eval ⟨none, .store t x y, t', pos, af, g⟩).run X.P w = .ok .skip (w.setRow gb (cur.toList.take o ++ us ++ cur.toList.drop (o + us.length)).toArray) := by
    show (do Instr.storeAt t (a.eval x) (a.eval y); pure Next.skip : Sem Next).run X.P w = _
    have hst := run_storeCells_at (P := X.P) gb o tt us 0 cur w h6 (by omega) h3
    simp only [Nat.add_zero] at hst
    rw [h5]
    simp only [Instr.storeAt, Instr.sureAddr, storeVar, h1, Sem.run_bind, Sem.run_pure, Result.andThen_ok, run_sizeOf h9, h10]
    rw [if_neg (by simp; omega)]
    simp only [Sem.run_bind, Sem.run_pure, Result.andThen_ok, hst]
  unfold Oper.wp
  rw [hrun]
  show wpX _ _ _ _ (a.put none undef) _
  rw [put_none]
  have hW := Is.write (v := ρ i) (e' := e.putc o ds) (w' := w.setRow gb (cur.toList.take o ++ us ++ cur.toList.drop (o + us.length)).toArray) hI hi rfl rfl rfl (by simp)
    (fun q hq hne => setRow_other _ _ _ _ (fun e => hne (by rw [e]; exact h4))) (.inl rfl) (fun S' hk => Ent.put_ok (hI.ent i e hi).1 h4 h6 h2 hle hk) (.inl rfl) (.inl ⟨rfl, by cases e <;> rfl⟩)
  exact h a _ _ (hW.bext (bget_bset hi))

def Ent.setc : Ent → Nat → CT → Ent
  | .box t cs, o, c => .box t (cs.set o c)
  | .row e n cs, o, c => .row e n (cs.set o c)
  | .rowx v e n cs, o, c => .rowx v e n (cs.set o c)
theorem putc_one {e : Ent} {o : Nat} {c : CT} (h : o < e.cs.length) : e.putc o [c] = e.setc o c := by
  cases e <;> simp only [Ent.cs] at h <;> simp only [Ent.putc, Ent.setc] <;> rw [spl_one h]

theorem one_val {c : CT} (ho : c.one = true) (hy : ev L y = some (.ct c)) : ∀ a ρ w, Is X L B a ρ w → ∃ us : List Value, (a.eval y).cells = us.toArray ∧ cells (Sof X B ρ) w [c] us ∧ ∀ v ∈ us, v.oneCell' = true := fun a ρ w hI => by
  have h1 : c.p _ w (a.eval y) := hI.ev hy
  have h2 := CT.hone ho h1
  exact ⟨[a.eval y], cells_one h2, ⟨h1, trivial⟩, fun v hv => by simp at hv; subst hv; exact h2⟩
theorem agg_val {ds : List CT} (ho : ones ds = true) (hy : ev L y = some (.ct (.fr (aggT ds)))) : ∀ a ρ w, Is X L B a ρ w → ∃ us : List Value, (a.eval y).cells = us.toArray ∧ cells (Sof X B ρ) w ds us ∧ ∀ v ∈ us, v.oneCell' = true := fun a ρ w hI => by
  obtain ⟨vs, h1, h2⟩ := hI.ev hy
  exact ⟨vs, by rw [h1]; rfl, h2, ones_cells ho h2⟩

theorem Ops.st1A {i o : Nat} {e : Ent} {c : CT} (hg : gd ops L g = some true) (hx : ev L x = some (.loc i o)) (hi : bget B i = some e) (hy : ev L y = some (.ct c)) (ho : c.one = true) (hsz : (X.P.info? t).map (·.size) = some 1) (hle : o < e.cs.length)
    (h : Ops X ops r L (bset B i (e.setc o c)) K) : Ops X ops (.cons ⟨none, .store t x y, t', pos, af, g⟩ .any r) L B K :=
  Ops.stG hg hx (.inl rfl) hi (one_val ho hy) hsz (by show o + 1 ≤ _; exact hle) (by rw [putc_one hle]; exact h)
theorem Ops.st1O {i tt : Nat} {c c0 : CT} (hg : gd ops L g = some true) (hx : ev L x = some (.own i)) (hi : bget B i = some (.box tt [c0])) (hy : ev L y = some (.ct c)) (ho : c.one = true) (hsz : (X.P.info? t).map (·.size) = some 1)
    (h : Ops X ops r L (bset B i (.box tt [c])) K) : Ops X ops (.cons ⟨none, .store t x y, t', pos, af, g⟩ .any r) L B K :=
  Ops.stG (o := 0) hg hx (.inr ⟨rfl, rfl, tt, _, rfl⟩) hi (one_val ho hy) hsz (by simp [Ent.cs]) h
/-- A whole variable of a struct type. -/
theorem Ops.stWO {i tt : Nat} {cs ds : List CT} (hg : gd ops L g = some true) (hx : ev L x = some (.own i)) (hi : bget B i = some (.box tt cs)) (hy : ev L y = some (.ct (.fr (aggT ds)))) (ho : ones ds = true) (hsz : (X.P.info? t).map (·.size) = some ds.length) (hl : cs.length = ds.length)
    (h : Ops X ops r L (bset B i (.box tt ds)) K) : Ops X ops (.cons ⟨none, .store t x y, t', pos, af, g⟩ .any r) L B K :=
  Ops.stG (o := 0) hg hx (.inr ⟨rfl, rfl, tt, _, rfl⟩) hi (agg_val ho hy) hsz (by simp [Ent.cs, hl]) (by
    have : (Ent.box tt cs).putc 0 ds = .box tt ds := by simp [Ent.putc, spl, ← hl]
    rw [this]; exact h)
theorem Ops.stNA {i o : Nat} {e : Ent} {ds : List CT} (hg : gd ops L g = some true) (hx : ev L x = some (.loc i o)) (hi : bget B i = some e) (hy : ev L y = some (.ct (.fr (aggT ds)))) (ho : ones ds = true) (hsz : (X.P.info? t).map (·.size) = some ds.length) (hle : o + ds.length ≤ e.cs.length)
    (h : Ops X ops r L (bset B i (e.putc o ds)) K) : Ops X ops (.cons ⟨none, .store t x y, t', pos, af, g⟩ .any r) L B K :=
  Ops.stG hg hx (.inl rfl) hi (agg_val ho hy) hsz hle h

/-! ### New memory -/

theorem Ops.mkE {o : Oper} {i : Nat} {e : Ent} (hk : k.mk = true) (hg : gd ops L o.guard = some true) (hd : o.dst = some d) (hn : Nat.blt d X.n = true) (hN : noN i L = true) (hB : bget B i = none)
    (hrun : ∀ a ρ w, Is X L B a ρ w → ∃ v w', (execOp a.eval o).run X.P w = .ok (.value v) w' ∧ Below w.heap.size w w' ∧ (∀ g, blk v = some g → w.heap.size ≤ g) ∧ ∀ S', Kp (Sof X B ρ) S' w w' → e.ok S' w' v)
    (h : Ops X ops r ((d, .own i) :: L) ((i, e) :: B) K) : Ops X ops (.cons o k r) L B K := fun a ρ w hI => by
  refine wpX_makes k hk ?_
  unfold wpO
  rw [if_pos (gd_spec hI hg)]
  obtain ⟨v, w', h1, h2, h3, h4⟩ := hrun a ρ w hI
  unfold Oper.wp
  rw [h1]
  refine ⟨h2, ?_⟩
  rw [hd]
  exact h _ _ w' ((hI.new hN hB h2 h3 h4).put (s := .own i) (lt_of_blt hn) (by show v = upd ρ i v i; rw [upd_eq]))

theorem Ops.mkF {o : Oper} {s : Sl} (hk : k.mk = true) (hg : gd ops L o.guard = some true) (hd : o.dst = some d) (hn : Nat.blt d X.n = true)
    (hrun : ∀ a ρ w, Is X L B a ρ w → ∃ v w', (execOp a.eval o).run X.P w = .ok (.value v) w' ∧ Below w.heap.size w w' ∧ s.p (Sof X B ρ) ρ w' v)
    (h : Ops X ops r ((d, s) :: L) B K) : Ops X ops (.cons o k r) L B K := fun a ρ w hI => by
  refine wpX_makes k hk ?_
  unfold wpO
  rw [if_pos (gd_spec hI hg)]
  obtain ⟨v, w', h1, h2, h3⟩ := hrun a ρ w hI
  unfold Oper.wp
  rw [h1]
  refine ⟨h2, ?_⟩
  rw [hd]
  exact h _ ρ w' ((hI.below h2).put (lt_of_blt hn) h3)

theorem below_alloc (w : World) (o : Obj) : Below w.heap.size w (w.alloc o) := (Below.refl _ _).alloc (Nat.le_refl _) o

theorem run_newVar {P : Program} (t : TypeId) (v : Value) (w : World) : (newVar t v).run P w = .ok ⟨w.heap.size, 0, none⟩ (w.alloc (.cells v.cells t)) := rfl

theorem run_zeroValue {P : Program} {t : TypeId} {zv : Value} (h : (P.info? t).map (·.zero) = some (some zv)) (w : World) : (zeroValue t).run P w = .ok zv w := by
  cases e : P.info? t with
  | none => rw [e] at h; cases h
  | some i =>
    rw [e] at h; injection h with h
    have h : i.zero = some zv := h
    simp [zeroValue, typeInfo, e, h]

theorem cells_ex {S : BSet} {w : World} : ∀ vs : List Value, cells S w (vs.map CT.ex) vs
  | [] => trivial
  | _ :: vs => ⟨rfl, cells_ex vs⟩

/-- A new variable, zero. -/
theorem Ops.alloc (i : Nat) {zv : Value} (hk : k.mk = true) (hg : gd ops L g = some true) (hz : (X.P.info? t).map (·.zero) = some (some zv)) (hN : noN i L = true) (hB : bget B i = none) (hn : Nat.blt d X.n = true) (h : Ops X ops r ((d, .own i) :: L) ((i, .box t (zv.cells.toList.map CT.ex)) :: B) K) :
    Ops X ops (.cons ⟨some d, .alloc t, t', pos, af, g⟩ k r) L B K :=
  Ops.mkE hk hg rfl hn hN hB (fun a ρ w hI => by
    refine ⟨.pointer (some ⟨w.heap.size, 0, none⟩), w.alloc (.cells zv.cells t), ?_, below_alloc _ _, fun g hg => ?_, fun S' hk => ⟨w.heap.size, zv.cells.toList, rfl, ?_, cells_ex _⟩⟩
    · show (do pure (Next.value (← Instr.alloc t true (.tuple #[]))) : Sem Next).run X.P w = _
      refine run_v ?_
      simp only [Instr.alloc, Sem.run_bind, run_zeroValue hz, Result.andThen_ok, run_newVar, Sem.run_pure]
    · injection hg with hg; subst hg; exact Nat.le_refl _
    · rw [Array.toArray_toList]; exact heap_alloc_new w _) h

theorem Ops.boxG (i : Nat) {cs : List CT} (hk : k.mk = true) (hg : gd ops L g = some true) (hx : ∀ a ρ w, Is X L B a ρ w → ∃ us : List Value, (a.eval x).cells = us.toArray ∧ cells (Sof X B ρ) w cs us ∧ ∀ v ∈ us, v.oneCell' = true) (hN : noN i L = true) (hB : bget B i = none) (hn : Nat.blt d X.n = true)
    (h : Ops X ops r ((d, .own i) :: L) ((i, .box t cs) :: B) K) : Ops X ops (.cons ⟨some d, .box t x, t', pos, af, g⟩ k r) L B K :=
  Ops.mkE hk hg rfl hn hN hB (fun a ρ w hI => by
    obtain ⟨us, h1, h2, _⟩ := hx a ρ w hI
    refine ⟨.pointer (some ⟨w.heap.size, 0, none⟩), w.alloc (.cells us.toArray t), ?_, below_alloc _ _, fun g hg => ?_, fun S' hk => ⟨w.heap.size, us, rfl, heap_alloc_new w _, h2.mono hk⟩⟩
    · show (do pure (Next.value (← Instr.box t (a.eval x))) : Sem Next).run X.P w = _
      refine run_v ?_
      simp only [Instr.box, Sem.run_bind, run_newVar, h1, Result.andThen_ok, Sem.run_pure]
    · injection hg with hg; subst hg; exact Nat.le_refl _) h
theorem Ops.box1 (i : Nat) {c : CT} (hk : k.mk = true) (hg : gd ops L g = some true) (hx : ev L x = some (.ct c)) (ho : c.one = true) (hN : noN i L = true) (hB : bget B i = none) (hn : Nat.blt d X.n = true)
    (h : Ops X ops r ((d, .own i) :: L) ((i, .box t [c]) :: B) K) : Ops X ops (.cons ⟨some d, .box t x, t', pos, af, g⟩ k r) L B K := Ops.boxG i hk hg (one_val ho hx) hN hB hn h
theorem Ops.boxN (i : Nat) {cs : List CT} (hk : k.mk = true) (hg : gd ops L g = some true) (hx : ev L x = some (.ct (.fr (aggT cs)))) (ho : ones cs = true) (hN : noN i L = true) (hB : bget B i = none) (hn : Nat.blt d X.n = true)
    (h : Ops X ops r ((d, .own i) :: L) ((i, .box t cs) :: B) K) : Ops X ops (.cons ⟨some d, .box t x, t', pos, af, g⟩ k r) L B K := Ops.boxG i hk hg (agg_val ho hx) hN hB hn h

/-! ### Literals -/

theorem foldl_set : ∀ (vs : List Value) (s off : Nat) (arr : Array Value), off + s + vs.length ≤ arr.size →
    ((vs.zipIdx s).foldl (fun (cs : Array Value) (p : Value × Nat) => cs.setIfInBounds (off + p.2) p.1) arr).toList = arr.toList.take (off + s) ++ vs ++ arr.toList.drop (off + s + vs.length)
  | [], s, off, arr, _ => by simp
  | v :: vs, s, off, arr, h => by
    simp only [List.zipIdx_cons, List.foldl_cons]
    have hl : off + s < arr.size := by simp at h; omega
    rw [foldl_set vs (s + 1) off _ (by simp at h ⊢; omega)]
    have e1 : (arr.setIfInBounds (off + s) v).toList = arr.toList.set (off + s) v := by simp
    rw [e1, List.set_eq_take_append_cons_drop, if_pos (by simpa using hl)]
    have hlen : (arr.toList.take (off + s)).length = off + s := by simp; omega
    have e2 : (arr.toList.take (off + s) ++ v :: arr.toList.drop (off + s + 1)).take (off + (s + 1)) = arr.toList.take (off + s) ++ [v] := by
      rw [List.take_append, hlen, List.take_of_length_le (by omega), show off + (s + 1) - (off + s) = 1 by omega]; rfl
    have e3 : (arr.toList.take (off + s) ++ v :: arr.toList.drop (off + s + 1)).drop (off + (s + 1) + vs.length) = arr.toList.drop (off + s + (v :: vs).length) := by
      rw [List.drop_append, hlen, List.drop_of_length_le (by omega), List.nil_append, show off + (s + 1) + vs.length - (off + s) = vs.length + 1 by omega, List.drop_succ_cons, List.drop_drop]
      congr 1; simp; omega
    rw [e2, e3]; simp

theorem fold_cells (us : List Value) (off : Nat) (arr : Array Value) (h : off + us.length ≤ arr.size) :
    (us.toArray.zipIdx.foldl (fun (cs : Array Value) (x : Value × Nat) => match x with | (c, j) => cs.setIfInBounds (off + j) c) arr) = (spl arr.toList off us).toArray := by
  have h1 := foldl_set us 0 off arr (by omega)
  simp only [Nat.add_zero] at h1
  have : (us.toArray.zipIdx.foldl (fun (cs : Array Value) (x : Value × Nat) => match x with | (c, j) => cs.setIfInBounds (off + j) c) arr).toList = spl arr.toList off us := by
    rw [← Array.foldl_toList]; simp only [Array.toList_zipIdx]; exact h1
  rw [← this, Array.toArray_toList]

theorem fill_step {pl : Nat → Option (Nat × Nat)} {i off n : Nat} {v : Value} {us vs : List Value} {q : List (Nat × Value)} (hp : pl i = some (off, n)) (hv : v.cells = us.toArray) (hl : us.length = n) (hle : off + n ≤ vs.length) :
    Instr.fill pl vs.toArray ((i, v) :: q) = Instr.fill pl (spl vs off us).toArray q := by
  have hf := fold_cells us off vs.toArray (by simp; omega)
  rw [Instr.fill]
  simp only [hp]
  rw [hv, hf]
  have h1 : (decide (us.toArray.size ≠ n) || decide (off + us.toArray.size > vs.toArray.size)) = false := by simp; omega
  rw [h1]
  rfl

/-- What the parts of a literal make of the cells. -/
inductive BParts (L : AL) (pl : Nat → Option (Nat × Nat)) : List (Nat × Operand) → List CT → List CT → Prop
  | nil {cs : List CT} : BParts L pl [] cs cs
  | one {i : Nat} {x : Operand} {c : CT} {off : Nat} {q : List (Nat × Operand)} {cs cs' : List CT} (hp : pl i = some (off, 1)) (hx : ev L x = some (.ct c)) (ho : c.one = true) (hl : Nat.blt off cs.length = true) (h : BParts L pl q (cs.set off c) cs') : BParts L pl ((i, x) :: q) cs cs'
  | agg {i : Nat} {x : Operand} {ds : List CT} {off n : Nat} {q : List (Nat × Operand)} {cs cs' : List CT} (hp : pl i = some (off, n)) (hx : ev L x = some (.ct (.fr (aggT ds)))) (hl : ds.length = n) (hn : Nat.ble (off + n) cs.length = true) (h : BParts L pl q (spl cs off ds) cs') : BParts L pl ((i, x) :: q) cs cs'

theorem BParts.fill {a : Act} {ρ : Nat → Value} {w : World} (hI : Is X L B a ρ w) {pl : Nat → Option (Nat × Nat)} {ps : List (Nat × Operand)} {cs cs' : List CT} (h : BParts L pl ps cs cs') :
    ∀ vs, cells (Sof X B ρ) w cs vs → ∃ vs' : List Value, Instr.fill pl vs.toArray (ps.map fun (i, x) => (i, a.eval x)) = some vs'.toArray ∧ cells (Sof X B ρ) w cs' vs' := by
  induction h with
  | nil => intro vs hv; exact ⟨vs, rfl, hv⟩
  | one hp hx ho hl _ ih =>
    intro vs hv
    rename_i i x c off q cs cs' _
    have h1 : c.p _ w (a.eval x) := hI.ev hx
    have h2 := cells_one (CT.hone ho h1)
    have hlv := hv.length
    have hl' := lt_of_blt hl
    have hs : spl vs off [a.eval x] = vs.set off (a.eval x) := spl_one (by omega)
    obtain ⟨vs', h3, h4⟩ := ih (vs.set off (a.eval x)) (hv.set h1)
    refine ⟨vs', ?_, h4⟩
    rw [List.map_cons, fill_step hp h2 rfl (by omega), hs]
    exact h3
  | agg hp hx hl hn _ ih =>
    intro vs hv
    rename_i i x ds off n q cs cs' _
    obtain ⟨us, h1, h2⟩ := hI.ev hx
    have hlv := hv.length
    have hlu := h2.length
    have hn' := Nat.le_of_ble_eq_true hn
    obtain ⟨vs', h3, h4⟩ := ih (spl vs off us) (hv.spl h2)
    refine ⟨vs', ?_, h4⟩
    rw [List.map_cons, fill_step (us := us) hp (by rw [h1]; rfl) (by omega) (by omega)]
    exact h3

def bInfo (P : Program) (t : TypeId) : Option (Value × List (Nat × Option Nat)) := match P.underlying t, (P.info? t).map (·.zero) with
  | some (.struct fs), some (some zv) => some (zv, fs.toList.map fun f => (f.offset, (P.info? f.type).map (·.size)))
  | _, _ => none
def plOf (l : List (Nat × Option Nat)) : Nat → Option (Nat × Nat) := fun i => match l[i]? with
  | some (o, some s) => some (o, s)
  | _ => none
def known : List (Nat × Option Nat) → Bool
  | [] => true
  | (_, some _) :: l => known l
  | (_, none) :: _ => false

theorem run_places {P : Program} (w : World) : ∀ (fs : List Field), known (fs.map fun f => (f.offset, (P.info? f.type).map (·.size))) = true →
    ∃ l, (fs.mapM fun f => do pure (f.offset, ← sizeOf f.type) : Sem (List (Nat × Nat))).run P w = .ok l w ∧ ∀ i, l[i]? = plOf (fs.map fun f => (f.offset, (P.info? f.type).map (·.size))) i
  | [], _ => ⟨[], rfl, fun i => by simp [plOf]⟩
  | f :: fs, hk => by
    cases e : P.info? f.type with
    | none => simp [e, known] at hk
    | some inf =>
      simp only [List.map_cons, e, Option.map_some, known] at hk
      obtain ⟨l, h1, h2⟩ := run_places w fs hk
      refine ⟨(f.offset, inf.size) :: l, ?_, fun i => ?_⟩
      · simp only [List.mapM_cons, Sem.run_bind, run_sizeOf e, Result.andThen_ok, Sem.run_pure, h1]
      · cases i with
        | zero => simp [plOf, e]
        | succ i => simpa [plOf] using h2 i

theorem Ops.build {ps : List (Nat × Operand)} {zv : Value} {pl : List (Nat × Option Nat)} {cs : List CT} (hg : gd ops L g = some true) (hi : bInfo X.P t = some (zv, pl)) (hk : known pl = true) (hb : BParts L (plOf pl) ps (zv.cells.toList.map CT.ex) cs) (hn : Nat.blt d X.n = true)
    (h : Ops X ops r ((d, .ct (.fr (aggT cs))) :: L) B K) : Ops X ops (.cons ⟨some d, .build t ps.toArray, t', pos, af, g⟩ k r) L B K :=
  Ops.val (s := .ct (.fr (aggT cs))) hg rfl hn (fun a ρ w hI => by
    obtain ⟨vs', h1, h2⟩ := hb.fill hI zv.cells.toList (cells_ex _)
    refine ⟨.agg vs'.toArray, fun w' _ => ?_, vs', rfl, h2⟩
    show (do pure (Next.value (← Instr.build t (ps.toArray.map fun (i, x) => (i, a.eval x)))) : Sem Next).run X.P w' = _
    refine run_v ?_
    unfold bInfo at hi
    split at hi
    · rename_i fs zv' hu hz
      injection hi with hi
      injection hi with e1 e2
      subst e1; subst e2
      obtain ⟨l, h3, h4⟩ := run_places w' fs.toList hk
      have h5 : (fs.mapM (fun f => do pure (f.offset, ← sizeOf f.type)) : Sem (Array (Nat × Nat))).run X.P w' = .ok l.toArray w' := by
        rw [Array.mapM_eq_mapM_toList, ← bind_pure_comp]; simp only [Sem.run_bind, h3, Result.andThen_ok, Sem.run_pure]
      have h6 : (fun i => l.toArray[i]?) = plOf (fs.toList.map fun f => (f.offset, (X.P.info? f.type).map (·.size))) := by funext i; rw [List.getElem?_toArray]; exact h4 i
      rw [Array.toArray_toList] at h1
      simp only [Instr.build, Sem.run_bind, run_zeroValue hz, Result.andThen_ok, run_underlying hu, h5, List.map_toArray]
      rw [h6]
      simp only [h1, Sem.run_pure]
    · cases hi) h

end Go.Own
