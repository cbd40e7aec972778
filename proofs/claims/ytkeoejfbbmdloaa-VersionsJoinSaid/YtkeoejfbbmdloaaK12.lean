/-
  More rules: results that are known better than a contract says.
-/
import Derived.Test.YtkeoejfbbmdloaaK11
namespace Go.Own
open Go.RowKit

variable {X : Ctx} {L : AL} {B : BL} {t : TypeId}

theorem AllRes.weak {s : ResultVar} {c c' : CT} {rv : List ResultVar} {cs : List CT} (hw : ∀ S w v, c.p S w v → c'.p S w v) (h : AllRes X L B (s :: rv) (c :: cs)) : AllRes X L B (s :: rv) (c' :: cs) :=
  ⟨fun a ρ w hI => by obtain ⟨v, h1, h2⟩ := h.1 a ρ w hI; exact ⟨v, h1, hw _ _ _ h2⟩, h.2⟩
theorem w_agg {cs ds : List CT} (h : argW cs ds) : ∀ S w v, (CT.fr (aggT cs)).p S w v → (CT.fr (aggT ds)).p S w v := by
  rintro S w v ⟨vs, h1, h2⟩
  exact ⟨vs, h1, h.cells h2⟩

end Go.Own
