/-
  The plain law of VersionsJoin: two differences one after the other are one; a difference joined with its inverse is none.
-/
import Derived.Test.YtkeoejfbbmdloaaL4
namespace Go.Proofs.Ytkeoejfbbmdloaa
open Go.Own

theorem join_law {a b c : List Cl} (ha : Asc a) (hb : Asc b) (hc : Asc c) : srt (wo (wo a b) (wo c b) ++ wo (wo b c) (wo b a)) = wo a c := by
  have m1 := fun x => wo_mem ha hb x
  have m2 := fun x => wo_mem hc hb x
  have m3 := fun x => wo_mem hb hc x
  have m4 := fun x => wo_mem hb ha x
  have a1 : Asc (wo a b) := wo_asc ha
  have a2 : Asc (wo c b) := wo_asc hc
  have a3 : Asc (wo b c) := wo_asc hb
  have a4 : Asc (wo b a) := wo_asc hb
  have n1 := fun x => wo_mem a1 a2 x
  have n2 := fun x => wo_mem a3 a4 x
  have s := srt_app (l := wo (wo a b) (wo c b)) (m := wo (wo b c) (wo b a)) (wo_asc a1) (wo_asc a3) (fun z h1 h2 => by
    rw [n1, m1] at h1; rw [n2, m3] at h2; exact h1.1.2 h2.1.1)
  refine Asc.ext s.1 (wo_asc ha) (fun x => ?_)
  rw [s.2, n1, n2, m1, m2, m3, m4, wo_mem ha hc]
  by_cases h1 : x ∈ a <;> by_cases h2 : x ∈ b <;> by_cases h3 : x ∈ c <;> simp [h1, h2, h3]

theorem join_law' {a b c : List Cl} (ha : Asc a) (hb : Asc b) (hc : Asc c) : srt (wo (wo b a) (wo b c) ++ wo (wo c b) (wo a b)) = wo c a := by
  have m1 := fun x => wo_mem ha hb x
  have m2 := fun x => wo_mem hc hb x
  have m3 := fun x => wo_mem hb hc x
  have m4 := fun x => wo_mem hb ha x
  have a1 : Asc (wo a b) := wo_asc ha
  have a2 : Asc (wo c b) := wo_asc hc
  have a3 : Asc (wo b c) := wo_asc hb
  have a4 : Asc (wo b a) := wo_asc hb
  have n1 := fun x => wo_mem a4 a3 x
  have n2 := fun x => wo_mem a2 a1 x
  have s := srt_app (l := wo (wo b a) (wo b c)) (m := wo (wo c b) (wo a b)) (wo_asc a4) (wo_asc a2) (fun z h1 h2 => by
    rw [n1, m4] at h1; rw [n2, m2] at h2; exact h2.1.2 h1.1.1)
  refine Asc.ext s.1 (wo_asc hc) (fun x => ?_)
  rw [s.2, n1, n2, m1, m2, m3, m4, wo_mem hc ha]
  by_cases h1 : x ∈ a <;> by_cases h2 : x ∈ b <;> by_cases h3 : x ∈ c <;> simp [h1, h2, h3]

end Go.Proofs.Ytkeoejfbbmdloaa
