/-
  More rules: stores of whole structs.
-/
import Derived.Test.YtkeoejfbbmdloaaK8
namespace Go.Own
open Go
variable {X : Ctx} {ops : Array Oper} {r : Pl} {L : AL} {B : BL} {K : Act → World → Prop} {k : Kd} {d : Nat} {t t' : TypeId} {pos : String} {af : Array Edge} {g : Option (Nat × Bool)} {x y : Operand}

theorem Ops.stWN {i tt : Nat} {cs ds : List CT} (n : Nat) (hg : gd ops L g = some true) (hx : ev L x = some (.own i)) (hi : bget B i = some (.box tt cs)) (hy : ev L y = some (.ct (.fr (aggT ds)))) (ho : ones ds = true) (hsz : (X.P.info? t).map (·.size) = some n) (hd : ds.length = n) (hl : cs.length = n)
    (h : Ops X ops r L (bset B i (.box tt ds)) K) : Ops X ops (.cons ⟨none, .store t x y, t', pos, af, g⟩ .any r) L B K :=
  Ops.stWO hg hx hi hy ho (by rw [hsz, hd]) (by rw [hl, hd]) h

end Go.Own
