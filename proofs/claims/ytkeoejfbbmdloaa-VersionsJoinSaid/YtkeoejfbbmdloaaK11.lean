/-
  More rules: slice literals of the call's own; uint64.
-/
import Derived.Test.YtkeoejfbbmdloaaK10
namespace Go.Own
open Go.RowKit

variable {X : Ctx} {L : AL} {B : BL} {ops : Array Oper} {K : Act → World → Prop} {r : Pl} {k : Kd}
  {x y z : Operand} {d : Nat} {t t2 t' : TypeId} {pos : String} {af : Array Edge} {g : Option (Nat × Bool)}

/-- A slice literal, of the call's own. -/
theorem Ops.litE (i : Nat) {m el n bytes : Nat} {zv : Value} {ps : List (Nat × Operand)} {cs : List CT} (hk : k.mk = true) (hg : gd ops L g = some true) (hT : SlcT X.P t el n bytes zv) (hb : BParts L (fun i => some (i * n, n)) ps (zinit zv m) cs) (hm : m * n ≤ 16777216) (hN : noN i L = true) (hB : bget B i = none) (hn : Nat.blt d X.n = true)
    (h : Ops X ops r ((d, .own i) :: L) ((i, .row el n cs) :: B) K) : Ops X ops (.cons ⟨some d, .buildSlice t m ps.toArray, t', pos, af, g⟩ k r) L B K :=
  Ops.mkE hk hg rfl hn hN hB (fun a ρ w hI => by
    obtain ⟨nf, h1, h2, h3, h4⟩ := hT.inf
    have hlen : cs.length = m * n := by
      rw [hb.len, zinit_map]
      simp [flatten_length (k := n) (es := List.replicate m zv.cells.toList) (fun e he => by rw [List.eq_of_mem_replicate he]; simpa using hT.zs), hT.zs]
    obtain ⟨vs', h5, h6⟩ := hb.fill hI ((List.replicate m zv.cells.toList).flatten) (by rw [zinit_map]; exact cells_ex _)
    have hz : (zeroValue el).run X.P w = .ok zv w := run_zeroValue (by rw [h1]; simp [h4]) w
    have hcells : (Array.range (m * n)).map (fun j => (if m * n = 0 then (#[] : Array Value) else zv.cells)[j % (if m * n = 0 then (#[] : Array Value) else zv.cells).size]!) = ((List.replicate m zv.cells.toList).flatten).toArray := by
      have hmf := made_flat zv.cells m
      rw [hT.zs] at hmf
      by_cases h0 : m * n = 0
      · have hm0 : m = 0 := by
          rcases Nat.mul_eq_zero.1 h0 with h | h
          · exact h
          · have := hT.pos; omega
        subst hm0
        simp
      · rw [if_neg h0, ← hmf, Array.toArray_toList]; rfl
    have hl6 := h6.length
    refine ⟨.slice (some ⟨w.heap.size, 0, none⟩) m m, w.alloc (.cells vs'.toArray el), ?_, below_alloc _ _, fun g hg => ?_, fun S' hk => ⟨m, vs', ?_, h6.mono hk⟩⟩
    · show (do pure (Next.value (← Instr.buildSlice t m (ps.toArray.map fun (i, x) => (i, a.eval x)))) : Sem Next).run X.P w = _
      refine run_v ?_
      simp only [Instr.buildSlice, Sem.run_bind, run_underlying hT.und, Result.andThen_ok, run_sizeOf h1, h2, List.map_toArray]
      rw [if_neg (by omega)]
      have h5' : Instr.fill (fun i => some (i * n, n)) (List.replicate m zv.cells.toList).flatten.toArray (List.map (fun x => (x.fst, a.eval x.snd)) ps) = some vs'.toArray := h5
      by_cases h0 : m * n = 0
      · simp only [if_pos h0] at hcells
        rw [if_pos h0]
        simp only [Sem.run_bind, Sem.run_pure, Result.andThen_ok, hcells, h5']
        rfl
      · simp only [if_neg h0] at hcells
        rw [if_neg h0]
        simp only [Sem.run_bind, Sem.run_pure, Result.andThen_ok, hz, hcells, h5']
        rfl
    · injection hg with hg; subst hg; exact Nat.le_refl _
    · have hmn : m ≤ m * n := Nat.le_mul_of_pos_right _ hT.pos
      have h7 : vs'.length = m * n := by omega
      exact ⟨h7, .inr ⟨w.heap.size, m, vs'.toArray, rfl, Nat.zero_le _, heap_alloc_new w _, Nat.le_refl _, by simp only [maxLen]; omega, by simpa using h7, by simp [← h7]⟩⟩) h
theorem Ops.lit1E (i : Nat) {el bytes : Nat} {zv : Value} {c : CT} (hk : k.mk = true) (hg : gd ops L g = some true) (hT : SlcT X.P t el 1 bytes zv) (hx : ev L x = some (.ct c)) (ho : c.one = true) (hN : noN i L = true) (hB : bget B i = none) (hn : Nat.blt d X.n = true)
    (h : Ops X ops r ((d, .own i) :: L) ((i, .row el 1 [c]) :: B) K) : Ops X ops (.cons ⟨some d, .buildSlice t 1 #[(0, x)], t', pos, af, g⟩ k r) L B K := by
  have hl := zinit_len hT 1
  have e : (zinit zv 1).set 0 c = [c] := by
    match hz : zinit zv 1, hl with
    | [q], _ => rfl
  refine Ops.litE i (m := 1) (ps := [(0, x)]) hk hg hT (.one (off := 0) rfl hx ho (by rw [hl]; rfl) .nil) (by decide) hN hB hn ?_
  rw [e]; exact h

theorem wrap_u {n : Int} (h1 : 0 ≤ n) (h2 : n < 18446744073709551616) : IntKind.u64.wrap n = n := by
  rw [show IntKind.u64.wrap n = n % 18446744073709551616 by simp [IntKind.wrap, IntKind.bits, IntKind.signed]]; omega
theorem uquo {p q : Int} (h0 : 0 ≤ p) (hq : 0 < q) (h2 : p < 18446744073709551616) : IBin .quo .u64 p .u64 q (.int .u64 (p / q)) := .of fun P t w => by
  show (Op.intDiv .quo .u64 p q).run P w = _
  have h3 : p / q ≤ p := Int.ediv_le_self q h0
  have h4 : 0 ≤ p / q := Int.ediv_nonneg h0 (by omega)
  simp [Op.intDiv, show q ≠ 0 by omega, Int.tdiv_eq_ediv_of_nonneg h0, wrap_u (n := p / q) (by omega) (by omega)]
theorem urem {p q : Int} (h0 : 0 ≤ p) (hq : 0 < q) : IBin .rem .u64 p .u64 q (.int .u64 (p % q)) := .of fun P t w => by
  show (Op.intDiv .rem .u64 p q).run P w = _
  simp [Op.intDiv, show q ≠ 0 by omega, Int.tmod_eq_emod_of_nonneg h0]
theorem uadd {p q : Int} (h1 : 0 ≤ p + q) (h2 : p + q < 18446744073709551616) : IBin .add .u64 p .u64 q (.int .u64 (p + q)) := .of fun P t w => by
  show (Op.intArith .add .u64 p q).run P w = _
  simp [Op.intArith, wrap_u h1 h2]

end Go.Own
