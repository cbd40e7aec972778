/-
  More rules: bytes of constant strings; growing a nil slice; cutting a row of the call's own.
-/
import Derived.Test.YtkeoejfbbmdloaaK19
import Derived.Lib.AppendZeros
namespace Go.Own
open Go.RowKit

variable {X : Ctx} {L : AL} {B : BL} {ops : Array Oper} {K : Act → World → Prop} {r : Pl} {k : Kd}
  {x y z : Operand} {d : Nat} {t t2 t' : TypeId} {pos : String} {af : Array Edge} {g : Option (Nat × Bool)}

theorem Ops.idxS {s : ByteArray} {kk : IntKind} {j : Int} {b : UInt8} (hg : gd ops L g = some true) (hx : ev L x = some (.ct (.ex (.string s)))) (hy : ev L y = some (.ct (.ex (.int kk j)))) (hu : X.P.underlying t = some .string) (h0 : 0 ≤ j) (hb : s[j.toNat]? = some b) (hn : Nat.blt d X.n = true)
    (h : Ops X ops r ((d, .ct (.ex (.int .u8 b.toNat))) :: L) B K) : Ops X ops (.cons ⟨some d, .index t x y, t', pos, af, g⟩ k r) L B K :=
  Ops.val (s := .ct (.ex (.int .u8 b.toNat))) hg rfl hn (fun a ρ w hI => by
    refine ⟨_, fun w' _ => ?_, rfl⟩
    show (do pure (Next.value (← Instr.index t (a.eval x) (a.eval y))) : Sem Next).run X.P w' = _
    rw [hI.evx hx, hI.evx hy]
    refine run_v ?_
    simp [Instr.index, asIntOf, run_underlying hu, h0, hb]) h

theorem Ops.idxSe {s : ByteArray} {kk : IntKind} {j : Int} (hg : gd ops L g = some true) (hx : ev L x = some (.ct (.ex (.string s)))) (hy : ev L y = some (.ct (.ex (.int kk j)))) (hu : X.P.underlying t = some .string) (h0 : 0 ≤ j) (hs : Nat.ble 256 s.size = true) (hj : j.toNat < 256) (hn : Nat.blt d X.n = true)
    (h : ∀ b : UInt8, Ops X ops r ((d, .ct (.ex (.int .u8 b.toNat))) :: L) B K) : Ops X ops (.cons ⟨some d, .index t x y, t', pos, af, g⟩ k r) L B K := by
  have hlt : j.toNat < s.size := Nat.lt_of_lt_of_le hj (Nat.le_of_ble_eq_true hs)
  exact Ops.idxS (b := s[j.toNat]) hg hx hy hu h0 (getElem?_pos s j.toNat hlt) hn (h _)

theorem Ops.capNil {el : Nat} (hg : gd ops L g = some true) (hx : ev L x = some (.ct (.ex (.slice none 0 0)))) (hu : X.P.underlying t = some (.slice el)) (hn : Nat.blt d X.n = true) (h : Ops X ops r ((d, .ct (.ex (.int .i64 0))) :: L) B K) :
    Ops X ops (.cons ⟨some d, .call { callee := .builtin .cap, args := #[x], argTypes := #[t] }, t', pos, af, g⟩ k r) L B K :=
  Ops.val (s := .ct (.ex (.int .i64 0))) hg rfl hn (fun a ρ w hI => by
    refine ⟨_, fun w' _ => run_builtin (args := [x]) ?_, rfl⟩
    intro _
    simp only [List.map_cons, List.map_nil, hI.evx hx]
    refine run_v ?_
    simp [Builtin.cap_, run_underlying hu, goInt]) h

theorem Ops.cutNil {el n bytes : Nat} {zv : Value} {kk : IntKind} (hg : gd ops L g = some true) (hx : ev L x = some (.ct (.ex (.slice none 0 0)))) (hy : ev L y = some (.ct (.ex (.int kk 0)))) (hT : SlcT X.P t el n bytes zv) (hn : Nat.blt d X.n = true)
    (h : Ops X ops r ((d, .ct (.ex (.slice none 0 0))) :: L) B K) : Ops X ops (.cons ⟨some d, .slice t x none (some y) none, t', pos, af, g⟩ k r) L B K :=
  Ops.val (s := .ct (.ex (.slice none 0 0))) hg rfl hn (fun a ρ w hI => by
    refine ⟨_, fun w' _ => ?_, rfl⟩
    show (do pure (Next.value (← Instr.sliceAt t (a.eval x) (Option.map a.eval none) ((some y).map a.eval) (Option.map a.eval none))) : Sem Next).run X.P w' = _
    rw [hI.evx hx]
    simp only [Option.map_some, Option.map_none, hI.evx hy]
    obtain ⟨nf, i1, i2, _⟩ := hT.inf
    have he := elem_eq hT.und
    have hu : X.P.underlying t = some (.slice (X.P.elem t)) := by rw [he]; exact hT.und
    refine run_v ?_
    simp only [Instr.sliceAt, Sem.run_bind, run_underlying hT.und, Result.andThen_ok]
    rw [run_slice_h (P := X.P) (w := w') t none 0 0 hu kk 0 (Int.le_refl _) (by decide)]
    rw [he, run_sizeOf i1, i2]; simp [sliced]) h

theorem zero_flat (zs : Array Value) (n : Nat) : (Builtin.zeroCells zs n).toList = (List.replicate n zs.toList).flatten := made_flat zs n

/-- Appending zeros to nil makes a row. -/
theorem Ops.appZ (i m : Nat) {el n bytes tn : Nat} {zv : Value} {kk : IntKind} {j : Int} (hg : gd ops L g = some true) (hx : ev L x = some (.ct (.ex (.slice none 0 0)))) (hy : ev L y = some (.ct (.ex (.int .i64 j)))) (hj : j = (m : Int)) (hm : 0 < m) (hT : SlcT X.P t el n bytes zv) (htn : X.P.underlying tn = some (.int kk)) (hb : m * bytes ≤ 140737488355328) (hmx : m ≤ 140737488355328) (hN : noN i L = true) (hB : bget B i = none) (hn : Nat.blt d X.n = true)
    (h : Ops X ops r ((d, .own i) :: L) ((i, .row el n (zinit zv m)) :: B) K) : Ops X ops (.cons ⟨some d, .call { callee := .builtin .append, args := #[x, y], argTypes := #[t, tn] }, t', pos, af, g⟩ .any r) L B K :=
  Ops.mkE (k := .any) rfl hg rfl hn hN hB (fun a ρ w hI => by
    obtain ⟨nf, i1, i2, i3, i4⟩ := hT.inf
    have hr := Lib.run_append_nil_zeros (P := X.P) w t tn t' el nf zv .i64 kk hT.und htn i1 i4 m hm (by rw [i2]; exact hT.pos) (by omega) (by rw [i3]; omega)
    have hbel : Below w.heap.size w (w.drew.alloc (.cells (Builtin.zeroCells zv.cells m ++ Builtin.zeroCells zv.cells (grownCap w m 0 el - m)) el)) := ((Below.refl _ _).drew).alloc (Nat.le_refl _) _
    refine ⟨_, _, run_builtin (args := [x, y]) (fun _ => by
      simp only [List.map_cons, List.map_nil, hI.evx hx, hI.evx hy, hj]
      exact run_v hr), hbel, fun g hg => ?_, fun S' hk => ⟨m, (List.replicate m zv.cells.toList).flatten, ?_, ?_⟩⟩
    · injection hg with hg; subst hg; exact Nat.le_refl _
    · have hge := grownCap_ge w m 0 el
      have hlen : ∀ q, (List.replicate q zv.cells.toList).flatten.length = q * n := fun q => by
        rw [flatten_length (k := n) (fun e he => by rw [List.eq_of_mem_replicate he]; simpa using hT.zs)]; simp
      refine ⟨hlen m, .inr ⟨w.heap.size, grownCap w m 0 el, _, rfl, Nat.zero_le _, heap_alloc_new w.drew _, hge, grownCap_le_maxLen w m 0 el (by simp only [maxLen]; omega), ?_, ?_⟩⟩
      · rw [← Array.length_toList, Array.toList_append, zero_flat, zero_flat, List.length_append, hlen, hlen, ← Nat.add_mul]; congr 1; omega
      · rw [Array.toList_append, zero_flat, ← hlen m, List.take_left]
    · rw [zinit_map]; exact cells_ex _) h

/-- The first elements of a row of the call's own. -/
theorem Ops.cutR {i el n bytes : Nat} {zv : Value} {kk : IntKind} {j : Int} {cs : List CT} (m : Nat) (hg : gd ops L g = some true) (hx : ev L x = some (.own i)) (hi : bget B i = some (.row el n cs)) (hy : ev L y = some (.ct (.ex (.int kk j)))) (hT : SlcT X.P t el n bytes zv) (hl : cs.length = m * n) (h0 : 0 ≤ j) (h1 : j.toNat ≤ m) (hm : 0 < m) (hn : Nat.blt d X.n = true)
    (h : Ops X ops r ((d, .own i) :: killL i L) (bset B i (.row el n (cs.take (j.toNat * n)))) K) : Ops X ops (.cons ⟨some d, .slice t x none (some y) none, t', pos, af, g⟩ .any r) L B K := fun a ρ w hI => by
  show wpO _ _ _ _ _ _
  unfold wpO
  rw [if_pos (gd_spec (o := ⟨some d, .slice t x none (some y) none, t', pos, af, g⟩) hI hg)]
  have hx1 : a.eval x = ρ i := hI.ev hx
  obtain ⟨m', vs, how, hc⟩ := (hI.ent i _ hi).1
  have hlv := hc.length
  rw [how.1, hl] at hlv
  have hmm : m' = m := Nat.eq_of_mul_eq_mul_right hT.pos hlv
  subst hmm
  rcases how.2 with ⟨_, h2⟩ | ⟨gb, cap, cur, hρ, hge, hgb, hnc, hcm, hcz, htk⟩
  · omega
  obtain ⟨nf, i1, i2, _⟩ := hT.inf
  have he := elem_eq hT.und
  have hu : X.P.underlying t = some (.slice (X.P.elem t)) := by rw [he]; exact hT.und
  have hrun : (execOp a.eval ⟨some d, .slice t x none (some y) none, t', pos, af, g⟩).run X.P w = .ok (.value (.slice (some ⟨gb, 0, none⟩) j.toNat cap)) w := by
    show (do pure (Next.value (← Instr.sliceAt t (a.eval x) (Option.map a.eval none) ((some y).map a.eval) (Option.map a.eval none))) : Sem Next).run X.P w = _
    rw [hx1, hρ]
    simp only [Option.map_some, Option.map_none, hI.evx hy]
    refine run_v ?_
    simp only [Instr.sliceAt, Sem.run_bind, run_underlying hT.und, Result.andThen_ok]
    rw [run_slice_h (P := X.P) (w := w) t _ m' cap hu kk j h0 (by omega)]
    rw [he, run_sizeOf i1, i2]; simp [sliced, Addr.add]
  unfold Oper.wp
  rw [hrun]
  show wpX _ _ _ _ (a.put (some d) _) w
  have hjn : j.toNat * n ≤ m' * n := Nat.mul_le_mul_right _ h1
  have hW := Is.write (v := .slice (some ⟨gb, 0, none⟩) j.toNat cap) (e' := .row el n (cs.take (j.toNat * n))) (w' := w) (hI.killL i) hi rfl rfl rfl (Nat.le_refl _) (fun _ _ _ => rfl) (.inl (by rw [hρ]; rfl))
    (fun S' hk => ⟨j.toNat, vs.take (j.toNat * n), ⟨by rw [List.length_take, how.1]; omega, .inr ⟨gb, cap, cur, rfl, hge, hgb, by omega, hcm, hcz, by rw [← htk, List.take_take]; congr 1; omega⟩⟩, (hc.take _).mono hk⟩) (.inr (noN_killL i L)) (.inr rfl)
  exact h _ _ w ((hW.bext (bget_bset hi)).put (s := .own i) (lt_of_blt hn) (by show _ = upd ρ i _ i; rw [upd_eq]))

end Go.Own
