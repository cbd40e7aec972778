/-
  More laws: nil slices as frozen ones; slice literals of the call's own.
-/
import Derived.Test.YtkeoejfbbmdloaaK7
namespace Go.Own
open Go.RowKit

variable {X : Ctx} {L : AL} {B : BL} {ops : Array Oper} {K : Act → World → Prop} {r : Pl} {k : Kd}
  {x y z : Operand} {d : Nat} {t t2 t' : TypeId} {pos : String} {af : Array Edge} {g : Option (Nat × Bool)}

theorem nil_is (n : Nat) (S : BSet) (w : World) : (CT.fr (sliceT n [])).p S w (.slice none 0 0) :=
  ⟨none, 0, rfl, Nat.le_refl _, Nat.zero_le _, (fun e he => by cases he), fun h => absurd rfl h⟩

theorem Fin.asNil (dd n : Nat) (hd : look L dd = some (.ct (.ex (.slice none 0 0)))) (h : Fin X ((dd, .ct (.fr (sliceT n []))) :: L) B K) : Fin X L B K := fun a ρ w hI => by
  refine h a ρ w (hI.sub fun d s hs => ?_)
  by_cases hdd : dd = d
  · subst hdd; rw [look_cons_eq] at hs; injection hs with hs; subst hs
    have : a.tmps.getD dd undef = .slice none 0 0 := hI.slot dd _ hd
    rw [this]; exact nil_is n _ _
  · rw [look_cons_ne _ _ hdd] at hs; exact hI.slot d s hs
theorem St.asNil {c : Code} {Q : Exit → Act → World → Prop} (dd n : Nat) (hd : look L dd = some (.ct (.ex (.slice none 0 0)))) (h : St X ((dd, .ct (.fr (sliceT n []))) :: L) B c Q) : St X L B c Q := Fin.asNil dd n hd h
theorem Ops.asNil {l : Pl} (dd n : Nat) (hd : look L dd = some (.ct (.ex (.slice none 0 0)))) (h : Ops X ops l ((dd, .ct (.fr (sliceT n []))) :: L) B K) : Ops X ops l L B K := Fin.asNil dd n hd h
theorem AllRes.nilS {s : Nat} (n : Nat) {rv : List ResultVar} {cs : List CT} (h : look L s = some (.ct (.ex (.slice none 0 0)))) (hr : AllRes X L B rv cs) : AllRes X L B (.tmp s :: rv) (.fr (sliceT n []) :: cs) :=
  ⟨fun a ρ w hI => ⟨_, rfl, by
    have : a.tmps.getD s undef = .slice none 0 0 := hI.slot s _ h
    rw [this]; exact nil_is n _ _⟩, hr⟩

/-- An empty literal, of the call's own. -/
theorem Ops.lit0E (i : Nat) {ps : List (Nat × Operand)} {el n bytes : Nat} {zv : Value} (hps : ps = []) (hk : k.mk = true) (hg : gd ops L g = some true) (hT : SlcT X.P t el n bytes zv) (hN : noN i L = true) (hB : bget B i = none) (hn : Nat.blt d X.n = true)
    (h : Ops X ops r ((d, .own i) :: L) ((i, .row el n []) :: B) K) : Ops X ops (.cons ⟨some d, .buildSlice t 0 ps.toArray, t', pos, af, g⟩ k r) L B K :=
  Ops.mkE hk hg rfl hn hN hB (fun a ρ w hI => by
    obtain ⟨nf, h1, h2, h3, h4⟩ := hT.inf
    refine ⟨.slice (some ⟨w.heap.size, 0, none⟩) 0 0, w.alloc (.cells #[] el), ?_, below_alloc _ _, fun g hg => ?_, fun S' hk => ⟨0, [], ?_, trivial⟩⟩
    · show (do pure (Next.value (← Instr.buildSlice t 0 (ps.toArray.map fun (i, x) => (i, a.eval x)))) : Sem Next).run X.P w = _
      refine run_v ?_
      have h24 : ¬ (0 * n > 2 ^ 24) := by rw [Nat.zero_mul]; decide
      have h0 : 0 * n = 0 := Nat.zero_mul n
      have hf : ∀ z : Array Value, Instr.fill (fun i => some (i * n, n)) ((Array.range (0 * n)).map fun x => z[x % z.size]!) (ps.map fun (i, x) => (i, a.eval x)) = some #[] := fun z => by rw [hps, Nat.zero_mul]; simp [Instr.fill]
      simp only [Instr.buildSlice, Sem.run_bind, run_underlying hT.und, Result.andThen_ok, run_sizeOf h1, h2, List.map_toArray]
      rw [if_neg h24, if_pos h0]
      simp only [Sem.run_bind, Sem.run_pure, Result.andThen_ok, hf]
      rfl
    · injection hg with hg; subst hg; exact Nat.le_refl _
    · exact ⟨by simp, .inr ⟨w.heap.size, 0, #[], rfl, Nat.zero_le _, heap_alloc_new w _, Nat.le_refl _, Nat.zero_le _, by simp, by simp⟩⟩) h

end Go.Own
