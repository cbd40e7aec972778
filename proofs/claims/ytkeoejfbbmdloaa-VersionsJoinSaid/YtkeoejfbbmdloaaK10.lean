/-
  More rules: arguments that are known better than a contract asks.
-/
import Derived.Test.YtkeoejfbbmdloaaK9
namespace Go.Own
open Go.RowKit

def argW : List CT → List CT → Prop
  | [], [] => True
  | c :: cs, d :: ds => (∀ S w v, c.p S w v → d.p S w v) ∧ argW cs ds
  | _, _ => False
theorem argW.cells {S : BSet} {w : World} : ∀ {As' As : List CT} {vs : List Value}, argW As' As → Own.cells S w As' vs → Own.cells S w As vs
  | [], [], [], _, _ => trivial
  | _ :: _, _ :: _, _ :: _, ⟨a, b⟩, ⟨c, d⟩ => ⟨a _ _ _ c, argW.cells b d⟩
  | [], [], _ :: _, _, h => h.elim
  | _ :: _, _ :: _, [], _, h => h.elim
  | [], _ :: _, _, h, _ => h.elim
  | _ :: _, [], _, h, _ => h.elim
theorem Ok.weak {P : Program} {f : FuncId} {As As' : List CT} {R : CT} (hk : Ok P f As R) (h : argW As' As) : Ok P f As' R := fun S w vs hS hA => hk S w vs hS (h.cells hA)
theorem w_same {c : CT} : ∀ S w v, c.p S w v → c.p S w v := fun _ _ _ h => h
theorem w_nil {n : Nat} : ∀ S w v, (CT.ex (.slice none 0 0)).p S w v → (CT.fr (sliceT n [])).p S w v := fun S w v h => by
  have : v = .slice none 0 0 := h
  subst this; exact nil_is n S w
theorem w_fun {f : FuncId} : ∀ S w v, (CT.ex (.func (.func f) #[] #[])).p S w v → (CT.fr (closT f [])).p S w v := fun S w v h => ⟨[], h, trivial⟩

end Go.Own
