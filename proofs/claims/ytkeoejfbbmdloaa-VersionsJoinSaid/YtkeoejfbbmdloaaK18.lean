/-
  More rules: the copy within a row; values of struct and array type; growing.
-/
import Derived.Test.YtkeoejfbbmdloaaK17
namespace Go.Own
open Go.RowKit

variable {X : Ctx} {L : AL} {B : BL} {ops : Array Oper} {K : Act → World → Prop} {r : Pl} {k : Kd}
  {x y z : Operand} {d : Nat} {t t2 t' : TypeId} {pos : String} {af : Array Edge} {g : Option (Nat × Bool)}

/-- A cut of a row from place lo on. -/
theorem run_cutLo {P : Program} {t el n bytes : Nat} {zv : Value} (hT : SlcT P t el n bytes zv) (ad : Option Addr) (m c : Nat) (kk : IntKind) (j : Int) (h0 : 0 ≤ j) (h2 : j.toNat ≤ m) (w : World) :
    (Instr.sliceAt t (.slice ad m c) (some (.int kk j)) none none).run P w = .ok (.slice (if c = j.toNat then ad else ad.map (·.add (j.toNat * n))) (m - j.toNat) (c - j.toNat)) w := by
  obtain ⟨nf, i1, i2, _⟩ := hT.inf
  have he := elem_eq hT.und
  have hu : P.underlying t = some (.slice (P.elem t)) := by rw [he]; exact hT.und
  simp only [Instr.sliceAt, Sem.run_bind, run_underlying hT.und, Result.andThen_ok]
  rw [run_slice_l (P := P) (w := w) t ad m c hu kk j h0 (by omega)]
  rw [he, run_sizeOf i1, i2]; simp [sliced]

theorem take_cells {cur : Array Value} {vs : List Value} {q o : Nat} (ht : cur.toList.take vs.length = vs) {w : World} {gb tt : Nat} (h : w.heap[gb]? = some (.cells cur tt (0, 0))) :
    ∀ j u, ((vs.drop o).take q)[j]? = some u → w.cell? ((⟨gb, o, none⟩ : Addr).add j) = some u := fun j u hu => by
  rw [add_cell]
  rw [List.getElem?_take] at hu
  split at hu
  · rw [List.getElem?_drop] at hu
    exact raw_cell h ht hu
  · cases hu

/-- The copy of a part of a row to another place of it. -/
theorem Ops.copyIn {i el n bytes d1 d2 d3 : Nat} {zv : Value} {cs : List CT} {j1 j2 : Int} {x1 x2 y1 y2 : Operand} {t1' t2' t3' : TypeId} {pos1 pos2 pos3 : String} {af1 af2 af3 : Array Edge} (m : Nat) (cs' : List CT)
    (hx1 : ev L x1 = some (.own i)) (hy1 : ev L y1 = some (.ct (.ex (.int .i64 j1)))) (hx2 : ev ((d1, .any) :: L) x2 = some (.own i)) (hy2 : ev ((d1, .any) :: L) y2 = some (.ct (.ex (.int .i64 j2))))
    (hi : bget B i = some (.row el n cs)) (hT : SlcT X.P t el n bytes zv) (hl : cs.length = m * n) (hm : 0 < m) (a1 : 0 ≤ j1) (b1 : j1.toNat ≤ m) (a2 : 0 ≤ j2) (b2 : j2.toNat ≤ m) (ho : ones cs = true) (hne : Nat.beq d2 d1 = false)
    (hcs : cs' = spl cs (j1.toNat * n) ((cs.drop (j2.toNat * n)).take (min (m - j2.toNat) (m - j1.toNat) * n))) (hn1 : Nat.blt d1 X.n = true) (hn2 : Nat.blt d2 X.n = true) (hn3 : Nat.blt d3 X.n = true)
    (h : Ops X ops r ((d3, .any) :: (d2, .any) :: (d1, .any) :: L) (bset B i (.row el n cs')) K) :
    Ops X ops (.cons ⟨some d1, .slice t x1 (some y1) none none, t1', pos1, af1, none⟩ .pure (.cons ⟨some d2, .slice t x2 (some y2) none none, t2', pos2, af2, none⟩ .pure (.cons ⟨some d3, .call { callee := .builtin .copy, args := #[.tmp d1, .tmp d2], argTypes := #[t, t] }, t3', pos3, af3, none⟩ .any r))) L B K := fun a ρ w hI => by
  have hx : a.eval x1 = ρ i := hI.ev hx1
  obtain ⟨m', vs, how, hc⟩ := (hI.ent i _ hi).1
  have hlv := hc.length
  rw [how.1, hl] at hlv
  have hmm : m' = m := Nat.eq_of_mul_eq_mul_right hT.pos hlv
  subst hmm
  rcases how.2 with ⟨_, h0⟩ | ⟨gb, cap, cur, hρ, _, hg, hnc, hcm, hcz, htk⟩
  · omega
  have hlv : vs.length = m' * n := how.1
  rw [← hlv] at htk
  have hv1 : ∀ w', (execOp a.eval ⟨some d1, .slice t x1 (some y1) none none, t1', pos1, af1, none⟩).run X.P w' = .ok (.value (.slice (if cap = j1.toNat then some ⟨gb, 0, none⟩ else (some (⟨gb, 0, none⟩ : Addr)).map (·.add (j1.toNat * n))) (m' - j1.toNat) (cap - j1.toNat))) w' := fun w' => by
    show (do pure (Next.value (← Instr.sliceAt t (a.eval x1) ((some y1).map a.eval) (Option.map a.eval none) (Option.map a.eval none))) : Sem Next).run X.P w' = _
    rw [hx, hρ]
    simp only [Option.map_some, Option.map_none, hI.evx hy1]
    exact run_v (run_cutLo hT _ _ _ _ _ a1 b1 w')
  generalize hd1 : Value.slice (if cap = j1.toNat then some ⟨gb, 0, none⟩ else (some (⟨gb, 0, none⟩ : Addr)).map (·.add (j1.toNat * n))) (m' - j1.toNat) (cap - j1.toNat) = v1 at hv1
  refine ⟨v1, .inl ⟨gd_spec (o := ⟨some d1, .slice t x1 (some y1) none none, t1', pos1, af1, none⟩) hI rfl, hv1⟩, ?_⟩
  have hI1 : Is X ((d1, .ct (.ex v1)) :: L) B (a.put (some d1) v1) ρ w := hI.put (lt_of_blt hn1) rfl
  have hI1a : Is X ((d1, .any) :: L) B (a.put (some d1) v1) ρ w := hI.put (s := .any) (lt_of_blt hn1) trivial
  have hxx : (a.put (some d1) v1).eval x2 = ρ i := hI1a.ev hx2
  have hv2 : ∀ w', (execOp (a.put (some d1) v1).eval ⟨some d2, .slice t x2 (some y2) none none, t2', pos2, af2, none⟩).run X.P w' = .ok (.value (.slice (if cap = j2.toNat then some ⟨gb, 0, none⟩ else (some (⟨gb, 0, none⟩ : Addr)).map (·.add (j2.toNat * n))) (m' - j2.toNat) (cap - j2.toNat))) w' := fun w' => by
    show (do pure (Next.value (← Instr.sliceAt t ((a.put (some d1) v1).eval x2) ((some y2).map (a.put (some d1) v1).eval) (Option.map (a.put (some d1) v1).eval none) (Option.map (a.put (some d1) v1).eval none))) : Sem Next).run X.P w' = _
    rw [hxx, hρ]
    simp only [Option.map_some, Option.map_none, hI1a.evx hy2]
    exact run_v (run_cutLo hT _ _ _ _ _ a2 b2 w')
  generalize hd2 : Value.slice (if cap = j2.toNat then some ⟨gb, 0, none⟩ else (some (⟨gb, 0, none⟩ : Addr)).map (·.add (j2.toNat * n))) (m' - j2.toNat) (cap - j2.toNat) = v2 at hv2
  refine ⟨v2, .inl ⟨gd_spec (o := ⟨some d2, .slice t x2 (some y2) none none, t2', pos2, af2, none⟩) hI1 rfl, hv2⟩, ?_⟩
  have hI2 : Is X ((d2, .ct (.ex v2)) :: (d1, .ct (.ex v1)) :: L) B ((a.put (some d1) v1).put (some d2) v2) ρ w := hI1.put (lt_of_blt hn2) rfl
  have e1 : ((a.put (some d1) v1).put (some d2) v2).eval (.tmp d1) = v1 := hI2.evx (x := .tmp d1) (by
    show look _ d1 = _
    have hd : d2 ≠ d1 := fun e => by subst e; simp at hne
    rw [look_cons_ne _ _ hd, look_cons_eq])
  have e2 : ((a.put (some d1) v1).put (some d2) v2).eval (.tmp d2) = v2 := hI2.evx (x := .tmp d2) (by show look _ d2 = _; rw [look_cons_eq])
  generalize hA : (a.put (some d1) v1).put (some d2) v2 = A at hI2 e1 e2
  show wpO _ _ _ _ A w
  unfold wpO
  rw [if_pos (gd_spec (o := ⟨some d3, .call { callee := .builtin .copy, args := #[.tmp d1, .tmp d2], argTypes := #[t, t] }, t3', pos3, af3, none⟩) hI2 rfl)]
  obtain ⟨nf, i1, i2, i3, i4⟩ := hT.inf
  -- what is copied
  have hq : min (m' - j2.toNat) (m' - j1.toNat) * n ≤ (m' - j2.toNat) * n := Nat.mul_le_mul_right _ (by omega)
  have hq1 : min (m' - j2.toNat) (m' - j1.toNat) * n ≤ (m' - j1.toNat) * n := Nat.mul_le_mul_right _ (by omega)
  generalize hN : min (m' - j2.toNat) (m' - j1.toNat) = N at *
  have hlen2 : ((vs.drop (j2.toNat * n)).take (N * n)).length = N * n := by
    rw [List.length_take, List.length_drop, hlv, ← Nat.sub_mul]; omega
  have hj1 : j1.toNat * n + N * n ≤ m' * n := by
    have : j1.toNat * n + (m' - j1.toNat) * n = m' * n := by rw [← Nat.add_mul]; congr 1; omega
    omega
  have hcn : m' * n ≤ cap * n := Nat.mul_le_mul_right _ hnc
  have hcur : cur.toList.length = cap * n := by simpa using hcz
  generalize hLst : (vs.drop (j2.toNat * n)).take (N * n) = lst at *
  have hA2 : ∃ A2 : Addr, v2 = .slice (some A2) (m' - j2.toNat) (cap - j2.toNat) ∧ (0 < N → A2 = ⟨gb, j2.toNat * n, none⟩) := by
    rw [← hd2]
    by_cases hcj : cap = j2.toNat
    · exact ⟨⟨gb, 0, none⟩, by rw [if_pos hcj], fun h0 => by omega⟩
    · exact ⟨_, by rw [if_neg hcj]; rfl, fun _ => by show (⟨gb, 0, none⟩ : Addr).add _ = _; rw [add_cell, Nat.zero_add]⟩
  have hA1 : ∃ A1 : Addr, v1 = .slice (some A1) (m' - j1.toNat) (cap - j1.toNat) ∧ (0 < N → A1 = ⟨gb, j1.toNat * n, none⟩) := by
    rw [← hd1]
    by_cases hcj : cap = j1.toNat
    · exact ⟨⟨gb, 0, none⟩, by rw [if_pos hcj], fun h0 => by omega⟩
    · exact ⟨_, by rw [if_neg hcj]; rfl, fun _ => by show (⟨gb, 0, none⟩ : Addr).add _ = _; rw [add_cell, Nat.zero_add]⟩
  obtain ⟨A2, hv2', hA2⟩ := hA2
  obtain ⟨A1, hv1', hA1⟩ := hA1
  have hcl : cells (Sof X B ρ) w ((cs.drop (j2.toNat * n)).take (N * n)) lst := by rw [← hLst]; exact (hc.drop _).take _
  have hone : ∀ v ∈ lst, v.oneCell' = true := fun v hv => by
    rw [← hLst] at hv
    exact ones_cells ho hc v (List.mem_of_mem_drop (List.mem_of_mem_take hv))
  have hload : (loadCells A2 (N * n)).run X.P w = .ok lst.toArray w := by
    have := run_loadCells_list (P := X.P) w A2 lst (fun j u hu => by
      rcases Nat.eq_zero_or_pos N with h0 | h0
      · have : lst = [] := List.eq_nil_of_length_eq_zero (by rw [hlen2, h0, Nat.zero_mul])
        rw [this] at hu; simp at hu
      · rw [hA2 h0]
        rw [← hLst] at hu
        exact take_cells htk hg j u hu)
    rwa [hlen2] at this
  have hstore : (storeCells A1 lst).run X.P w = .ok () (w.setRow gb (cur.toList.take (j1.toNat * n) ++ lst ++ cur.toList.drop (j1.toNat * n + lst.length)).toArray) := by
    rcases Nat.eq_zero_or_pos N with h0 | h0
    · have : lst = [] := List.eq_nil_of_length_eq_zero (by rw [hlen2, h0, Nat.zero_mul])
      subst this
      simp only [storeCells, List.append_nil, List.length_nil, Nat.add_zero, List.take_append_drop, Array.toArray_toList]
      rw [setRow_self w gb cur el (0, 0) hg]
      rfl
    · rw [hA1 h0]
      have := run_storeCells_at (P := X.P) gb (j1.toNat * n) el lst 0 cur w hg (by rw [hlen2, ← Array.length_toList, hcur]; omega) hone
      simpa using this
  have hrun : (execOp A.eval ⟨some d3, .call { callee := .builtin .copy, args := #[.tmp d1, .tmp d2], argTypes := #[t, t] }, t3', pos3, af3, none⟩).run X.P w = .ok (.value (goInt N)) (w.setRow gb (cur.toList.take (j1.toNat * n) ++ lst ++ cur.toList.drop (j1.toNat * n + lst.length)).toArray) :=
    run_builtin (args := [.tmp d1, .tmp d2]) (fun _ => by
      simp only [List.map_cons, List.map_nil, e1, e2]
      refine run_v ?_
      rw [hv1', hv2']
      have hmin : Nat.min (m' - j2.toNat) (m' - j1.toNat) = N := hN
      simp [Builtin.copy_, run_underlying hT.und, Builtin.lenOf, hmin, run_sizeOf i1, i2, Builtin.firstCells, hload, hstore])
  unfold Oper.wp
  rw [hrun]
  show wpX _ _ _ _ (A.put (some d3) (goInt N)) _
  have hlc : ((cs.drop (j2.toNat * n)).take (N * n)).length = N * n := by rw [← hcl.length, hlen2]
  have hW := Is.write (v := ρ i) (e' := (Ent.row el n cs).putc (j1.toNat * n) ((cs.drop (j2.toNat * n)).take (N * n))) (w' := w.setRow gb (cur.toList.take (j1.toNat * n) ++ lst ++ cur.toList.drop (j1.toNat * n + lst.length)).toArray) hI2 hi rfl rfl rfl (by simp)
    (fun q hq hne => setRow_other _ _ _ _ (fun e => hne (by rw [e, hρ]; rfl))) (.inl rfl) (fun S' hk => Ent.put_ok (hI2.ent i _ hi).1 (by rw [hρ]; rfl) hg hcl (by rw [hlc]; show _ ≤ cs.length; rw [hl]; exact hj1) hk) (.inl rfl) (.inr rfl)
  have hW2 := hW.bext (bget_bset hi)
  have hpc : (Ent.row el n cs).putc (j1.toNat * n) ((cs.drop (j2.toNat * n)).take (N * n)) = .row el n cs' := by rw [hcs]; rfl
  rw [hpc] at hW2
  have hW3 := hW2.put (d := d3) (s := .any) (v := goInt N) (lt_of_blt hn3) trivial
  refine h _ _ _ (hW3.sub fun q s hq => ?_)
  by_cases q3 : d3 = q
  · subst q3; rw [look_cons_eq] at hq; injection hq with hq; subst hq; trivial
  · rw [look_cons_ne _ _ q3] at hq
    by_cases q2 : d2 = q
    · subst q2; rw [look_cons_eq] at hq; injection hq with hq; subst hq; trivial
    · rw [look_cons_ne _ _ q2] at hq
      by_cases q1 : d1 = q
      · subst q1; rw [look_cons_eq] at hq; injection hq with hq; subst hq; trivial
      · rw [look_cons_ne _ _ q1] at hq
        exact hW3.slot q s (by rw [look_cons_ne _ _ q3, look_cons_ne _ _ q2, look_cons_ne _ _ q1]; exact hq)

end Go.Own
