/-
  Walks: slices.IndexFunc and ContainsFunc, linear.validCoeffs, Valid.
-/
import Derived.Test.YtgpkpmhdfcopgaaP3
namespace Go.Proofs.Ytgpkpmhdfcopgaa
open Go.Own Go.Limbs
attribute [local irreducible] St Ops Go.Own.Fin Ok

/-- The index of the first that has it, or -1. -/
def idxI {α : Type} (p : α → Bool) (xs : List α) : Int := if xs.any p then (xs.findIdx p : Nat) else -1
theorem idxI_hit {α : Type} {p : α → Bool} {xs : List α} {z : α} {i : Nat} (h : i < xs.length) (hp : p (xs.getD i z) = true) (hn : ∀ j, j < i → p (xs.getD j z) = false) : idxI p xs = i := by
  have e : ∀ j (hj : j < xs.length), xs.getD j z = xs[j] := fun j hj => by simp [List.getD_eq_getElem?_getD, List.getElem?_eq_getElem hj]
  unfold idxI
  rw [if_pos (List.any_eq_true.mpr ⟨xs[i], List.getElem_mem h, by rw [← e i h]; exact hp⟩)]
  congr 1
  rw [List.findIdx_eq h]
  exact ⟨by rw [← e i h]; exact hp, fun j hj => by rw [← e j (by omega)]; exact hn j hj⟩
theorem idxI_miss {α : Type} {p : α → Bool} {xs : List α} {z : α} (hn : ∀ j, j < xs.length → p (xs.getD j z) = false) : idxI p xs = -1 := by
  have e : ∀ j (hj : j < xs.length), xs.getD j z = xs[j] := fun j hj => by simp [List.getD_eq_getElem?_getD, List.getElem?_eq_getElem hj]
  unfold idxI
  rw [if_neg]
  rw [Bool.not_eq_true, List.any_eq_false]
  intro x hx
  obtain ⟨j, hj, rfl⟩ := List.getElem_of_mem hx
  rw [← e j hj, hn j hj]; decide
theorem idxI_any {α : Type} (p : α → Bool) (xs : List α) : decide (0 ≤ idxI p xs) = xs.any p := by
  unfold idxI; split
  · rename_i h; rw [h]; simp
  · rename_i h; simp at h; rw [show decide ((0 : Int) ≤ -1) = false by decide]; symm; rw [List.any_eq_false]; simpa using h
theorem getD_mem {α : Type} {xs : List α} {z : α} {i : Nat} (h : i < xs.length) : xs.getD i z ∈ xs := by
  simp [List.getD_eq_getElem?_getD, List.getElem?_eq_getElem h]

set_option maxHeartbeats 2000000 in
theorem IndexFunc_ints (xs : List Int) (f : FuncId) (p : Int → Bool) (hgo : InGo Try.prog f) (hf : ∀ x ∈ xs, Ok Try.prog f [intC x] (boolC (p x))) (hl : xs.length < 4611686018427387904) : Ok Try.prog 81 [intsC xs, (.ex (.func (.func f) #[] #[]))] (intC (idxI p xs)) := by
  refine Ok.enter Try.func81 rfl _ Try.ntmps81 rfl ?_
  intro S w
  (refine St.seq ?_; refine St.regionK (fun K hK => ?_); refine Ops.assign rfl rfl rfl ?_; refine Ops.nil (hK _ _ ?_); clear hK K; refine Fin.then ?_; refine St.seq ?_; refine St.seq ?_; refine St.regionK (fun K hK => ?_); refine Ops.move rfl rfl rfl ?_; refine Ops.lenF rfl rfl (by with_reducible first | exact sNat.und | exact sInts.und) (List.length_map ..) rfl ?_; refine Ops.move rfl rfl rfl ?_; refine Ops.nil (hK _ _ ?_); clear hK K; refine Fin.then ?_; refine St.block ?_)
  refine St.loop (α := Nat) (fun i => i ≤ xs.length ∧ ∀ j, j < i → p (xs.getD j 0) = false)
    (fun i => [(0, .ct (intsC xs)), (1, .ct (.ex (.func (.func f) #[] #[]))), (7, .ct (intC xs.length)), (8, .ct (intC i))]) (fun _ => []) (fun i => xs.length - i) 0 ⟨Nat.zero_le _, fun j h => absurd h (Nat.not_lt_zero j)⟩ (by exact Entails.of rfl ⟨rfl, rfl, rfl, rfl, trivial⟩) ?_
  intro i ⟨hi, hv⟩
  dsimp only
  (refine St.seq ?_; refine St.regionK (fun K hK => ?_); refine Ops.ibin ilss rfl rfl rfl rfl ?_; refine Ops.nil (hK _ _ ?_); clear hK K; refine Fin.then ?_; refine St.seq ?_)
  refine St.condP rfl (fun h => ?_) (fun h => ?_)
  · have e2 : (i : Int).toNat = i := Int.toNat_natCast i
    (refine St.skip ?_; refine Fin.then ?_; refine St.seq ?_; refine St.block ?_; refine St.seq ?_; refine St.regionK (fun K hK => ?_); refine Ops.move rfl rfl rfl ?_; refine Ops.assign rfl rfl rfl ?_; refine Ops.nil (hK _ _ ?_); clear hK K; refine Fin.then ?_; refine St.seq ?_; refine St.regionK (fun K hK => ?_); refine Ops.move rfl rfl rfl ?_; refine Ops.move rfl rfl rfl ?_; refine Ops.move rfl rfl rfl ?_; refine Ops.idxF rfl rfl rfl (by with_reducible first | exact sNat | exact sInts) (by omega) (ints_at (by omega) (by omega)) rfl ?_; refine Ops.ld1F rfl rfl rfl (by with_reducible first | exact lInt | exact lNat | exact lBool | exact lInts) rfl ?_)
    rw [e2]
    skip
    refine Ops.callF hgo rfl (hf _ (getD_mem (by omega))) rfl rfl rfl rfl ?_
    (refine Ops.nil (hK _ _ ?_); clear hK K; refine Fin.then ?_)
    refine St.condB rfl (fun h2 => ?_) (fun h2 => ?_)
    · (refine St.seq ?_; refine St.regionK (fun K hK => ?_); refine Ops.move rfl rfl rfl ?_; refine Ops.assign rfl rfl rfl ?_; refine Ops.nil (hK _ _ ?_); clear hK K; refine Fin.then ?_; refine St.ret ?_; refine Fin.blockRet ?_; refine Fin.thenRet ?_; refine Fin.thenRet ?_; refine Fin.blockRet ?_; refine Fin.thenRet ?_)
      refine Fin.ret [_] rfl (AllRes.tmp rfl AllRes.nil) (by rw [idxI_hit (by omega) h2 hv]; rfl) rfl
    · (refine St.skip ?_; refine Fin.then ?_; refine St.regionK (fun K hK => ?_); refine Ops.ibin (iadd (by omega) (by omega)) rfl rfl rfl rfl ?_; refine Ops.move rfl rfl rfl ?_; refine Ops.nil (hK _ _ ?_); clear hK K; refine Fin.thenN ?_)
      refine Fin.next (i + 1) (by omega) ⟨by omega, ?_⟩ (by exact Entails.of rfl ⟨rfl, rfl, rfl, by simp only [Int.natCast_add]; rfl, trivial⟩)
      intro j hj
      rcases Nat.lt_or_ge j i with h3 | h3
      · exact hv j h3
      · have : j = i := by omega
        rw [this]; exact h2
  · have hi' : i = xs.length := by omega
    (refine St.exit ?_; refine Fin.then ?_; refine St.seq ?_; refine St.regionK (fun K hK => ?_); refine Ops.assign rfl rfl rfl ?_; refine Ops.nil (hK _ _ ?_); clear hK K; refine Fin.then ?_; refine St.ret ?_)
    refine Fin.ret [_] rfl (AllRes.tmp rfl AllRes.nil) (by rw [idxI_miss (fun j hj => hv j (by omega))]; rfl) rfl
theorem goIndexFunc_ints : InGo Try.prog 81 := InGo.of Try.func81 (by kernel_rfl) (by kernel_rfl)
theorem ContainsFunc_ints (xs : List Int) (f : FuncId) (p : Int → Bool) (hgo : InGo Try.prog f) (hf : ∀ x ∈ xs, Ok Try.prog f [intC x] (boolC (p x))) (hl : xs.length < 4611686018427387904) : Ok Try.prog 68 [intsC xs, (.ex (.func (.func f) #[] #[]))] (boolC (xs.any p)) := by
  refine Ok.enter Try.func68 rfl _ Try.ntmps68 rfl ?_
  intro S w
  (refine St.seq ?_; refine St.regionK (fun K hK => ?_); refine Ops.assign rfl rfl rfl ?_; refine Ops.nil (hK _ _ ?_); clear hK K; refine Fin.then ?_; refine St.seq ?_; refine St.regionK (fun K hK => ?_); refine Ops.move rfl rfl rfl ?_; refine Ops.move rfl rfl rfl ?_)
  refine Ops.call goIndexFunc_ints (IndexFunc_ints xs f p hgo hf hl) rfl rfl rfl rfl ?_
  (refine Ops.ibin igeq rfl rfl rfl rfl ?_; refine Ops.assign rfl rfl rfl ?_; refine Ops.nil (hK _ _ ?_); clear hK K; refine Fin.then ?_; refine St.ret ?_)
  refine Fin.ret [_] rfl (AllRes.tmp rfl AllRes.nil) (by rw [← idxI_any]; rfl) rfl
theorem goContainsFunc_ints : InGo Try.prog 68 := InGo.of Try.func68 (by kernel_rfl) (by kernel_rfl)

set_option maxHeartbeats 2000000 in
theorem IndexFunc_fracs (xs : List Fr) (f : FuncId) (p : Fr → Bool) (hgo : InGo Try.prog f) (hf : ∀ x ∈ xs, Ok Try.prog f [fracC x] (boolC (p x))) (hl : xs.length < 4611686018427387904) : Ok Try.prog 45 [fracsC xs, (.ex (.func (.func f) #[] #[]))] (intC (idxI p xs)) := by
  refine Ok.enter Try.func45 rfl _ Try.ntmps45 rfl ?_
  intro S w
  (refine St.seq ?_; refine St.regionK (fun K hK => ?_); refine Ops.assign rfl rfl rfl ?_; refine Ops.nil (hK _ _ ?_); clear hK K; refine Fin.then ?_; refine St.seq ?_; refine St.seq ?_; refine St.regionK (fun K hK => ?_); refine Ops.move rfl rfl rfl ?_; refine Ops.lenF rfl rfl (by with_reducible first | exact sFracs.und | exact sRows.und) (List.length_map ..) rfl ?_; refine Ops.move rfl rfl rfl ?_; refine Ops.nil (hK _ _ ?_); clear hK K; refine Fin.then ?_; refine St.block ?_)
  refine St.loop (α := Nat) (fun i => i ≤ xs.length ∧ ∀ j, j < i → p (xs.getD j fr0) = false)
    (fun i => [(0, .ct (fracsC xs)), (1, .ct (.ex (.func (.func f) #[] #[]))), (7, .ct (intC xs.length)), (8, .ct (intC i))]) (fun _ => []) (fun i => xs.length - i) 0 ⟨Nat.zero_le _, fun j h => absurd h (Nat.not_lt_zero j)⟩ (by exact Entails.of rfl ⟨rfl, rfl, rfl, rfl, trivial⟩) ?_
  intro i ⟨hi, hv⟩
  dsimp only
  (refine St.seq ?_; refine St.regionK (fun K hK => ?_); refine Ops.ibin ilss rfl rfl rfl rfl ?_; refine Ops.nil (hK _ _ ?_); clear hK K; refine Fin.then ?_; refine St.seq ?_)
  refine St.condP rfl (fun h => ?_) (fun h => ?_)
  · have e2 : (i : Int).toNat = i := Int.toNat_natCast i
    (refine St.skip ?_; refine Fin.then ?_; refine St.seq ?_; refine St.block ?_; refine St.seq ?_; refine St.regionK (fun K hK => ?_); refine Ops.move rfl rfl rfl ?_; refine Ops.assign rfl rfl rfl ?_; refine Ops.nil (hK _ _ ?_); clear hK K; refine Fin.then ?_; refine St.seq ?_; refine St.regionK (fun K hK => ?_); refine Ops.move rfl rfl rfl ?_; refine Ops.move rfl rfl rfl ?_; refine Ops.move rfl rfl rfl ?_; refine Ops.idxF rfl rfl rfl (by with_reducible exact sFracs) (by omega) (fracs_at (by omega) (by omega)) rfl ?_; refine Ops.ldNF (n := 3) rfl rfl rfl (by with_reducible exact lFrac) rfl rfl ?_)
    rw [e2]
    skip
    refine Ops.callF hgo rfl (hf _ (getD_mem (by omega))) rfl rfl rfl rfl ?_
    (refine Ops.nil (hK _ _ ?_); clear hK K; refine Fin.then ?_)
    refine St.condB rfl (fun h2 => ?_) (fun h2 => ?_)
    · (refine St.seq ?_; refine St.regionK (fun K hK => ?_); refine Ops.move rfl rfl rfl ?_; refine Ops.assign rfl rfl rfl ?_; refine Ops.nil (hK _ _ ?_); clear hK K; refine Fin.then ?_; refine St.ret ?_; refine Fin.blockRet ?_; refine Fin.thenRet ?_; refine Fin.thenRet ?_; refine Fin.blockRet ?_; refine Fin.thenRet ?_)
      refine Fin.ret [_] rfl (AllRes.tmp rfl AllRes.nil) (by rw [idxI_hit (by omega) h2 hv]; rfl) rfl
    · (refine St.skip ?_; refine Fin.then ?_; refine St.regionK (fun K hK => ?_); refine Ops.ibin (iadd (by omega) (by omega)) rfl rfl rfl rfl ?_; refine Ops.move rfl rfl rfl ?_; refine Ops.nil (hK _ _ ?_); clear hK K; refine Fin.thenN ?_)
      refine Fin.next (i + 1) (by omega) ⟨by omega, ?_⟩ (by exact Entails.of rfl ⟨rfl, rfl, rfl, by simp only [Int.natCast_add]; rfl, trivial⟩)
      intro j hj
      rcases Nat.lt_or_ge j i with h3 | h3
      · exact hv j h3
      · have : j = i := by omega
        rw [this]; exact h2
  · have hi' : i = xs.length := by omega
    (refine St.exit ?_; refine Fin.then ?_; refine St.seq ?_; refine St.regionK (fun K hK => ?_); refine Ops.assign rfl rfl rfl ?_; refine Ops.nil (hK _ _ ?_); clear hK K; refine Fin.then ?_; refine St.ret ?_)
    refine Fin.ret [_] rfl (AllRes.tmp rfl AllRes.nil) (by rw [idxI_miss (fun j hj => hv j (by omega))]; rfl) rfl
theorem goIndexFunc_fracs : InGo Try.prog 45 := InGo.of Try.func45 (by kernel_rfl) (by kernel_rfl)
theorem ContainsFunc_fracs (xs : List Fr) (f : FuncId) (p : Fr → Bool) (hgo : InGo Try.prog f) (hf : ∀ x ∈ xs, Ok Try.prog f [fracC x] (boolC (p x))) (hl : xs.length < 4611686018427387904) : Ok Try.prog 24 [fracsC xs, (.ex (.func (.func f) #[] #[]))] (boolC (xs.any p)) := by
  refine Ok.enter Try.func24 rfl _ Try.ntmps24 rfl ?_
  intro S w
  (refine St.seq ?_; refine St.regionK (fun K hK => ?_); refine Ops.assign rfl rfl rfl ?_; refine Ops.nil (hK _ _ ?_); clear hK K; refine Fin.then ?_; refine St.seq ?_; refine St.regionK (fun K hK => ?_); refine Ops.move rfl rfl rfl ?_; refine Ops.move rfl rfl rfl ?_)
  refine Ops.call goIndexFunc_fracs (IndexFunc_fracs xs f p hgo hf hl) rfl rfl rfl rfl ?_
  (refine Ops.ibin igeq rfl rfl rfl rfl ?_; refine Ops.assign rfl rfl rfl ?_; refine Ops.nil (hK _ _ ?_); clear hK K; refine Fin.then ?_; refine St.ret ?_)
  refine Fin.ret [_] rfl (AllRes.tmp rfl AllRes.nil) (by rw [← idxI_any]; rfl) rfl
theorem goContainsFunc_fracs : InGo Try.prog 24 := InGo.of Try.func24 (by kernel_rfl) (by kernel_rfl)

set_option maxHeartbeats 2000000 in
theorem IndexFunc_rows (xs : List Rw) (f : FuncId) (caps : List CT) (p : Rw → Bool) (hgo : InGo Try.prog f) (hf : ∀ x ∈ xs, Ok Try.prog f ([rowC x] ++ caps) (boolC (p x))) (hl : xs.length < 4611686018427387904) : Ok Try.prog 67 [rowsC xs, (.fr (closT f caps))] (intC (idxI p xs)) := by
  refine Ok.enter Try.func67 rfl _ Try.ntmps67 rfl ?_
  intro S w
  (refine St.seq ?_; refine St.regionK (fun K hK => ?_); refine Ops.assign rfl rfl rfl ?_; refine Ops.nil (hK _ _ ?_); clear hK K; refine Fin.then ?_; refine St.seq ?_; refine St.seq ?_; refine St.regionK (fun K hK => ?_); refine Ops.move rfl rfl rfl ?_; refine Ops.lenF rfl rfl (by with_reducible first | exact sFracs.und | exact sRows.und) (List.length_map ..) rfl ?_; refine Ops.move rfl rfl rfl ?_; refine Ops.nil (hK _ _ ?_); clear hK K; refine Fin.then ?_; refine St.block ?_)
  refine St.loop (α := Nat) (fun i => i ≤ xs.length ∧ ∀ j, j < i → p (xs.getD j rw0) = false)
    (fun i => [(0, .ct (rowsC xs)), (1, .ct (.fr (closT f caps))), (7, .ct (intC xs.length)), (8, .ct (intC i))]) (fun _ => []) (fun i => xs.length - i) 0 ⟨Nat.zero_le _, fun j h => absurd h (Nat.not_lt_zero j)⟩ (by exact Entails.of rfl ⟨rfl, rfl, rfl, rfl, trivial⟩) ?_
  intro i ⟨hi, hv⟩
  dsimp only
  (refine St.seq ?_; refine St.regionK (fun K hK => ?_); refine Ops.ibin ilss rfl rfl rfl rfl ?_; refine Ops.nil (hK _ _ ?_); clear hK K; refine Fin.then ?_; refine St.seq ?_)
  refine St.condP rfl (fun h => ?_) (fun h => ?_)
  · have e2 : (i : Int).toNat = i := Int.toNat_natCast i
    (refine St.skip ?_; refine Fin.then ?_; refine St.seq ?_; refine St.block ?_; refine St.seq ?_; refine St.regionK (fun K hK => ?_); refine Ops.move rfl rfl rfl ?_; refine Ops.assign rfl rfl rfl ?_; refine Ops.nil (hK _ _ ?_); clear hK K; refine Fin.then ?_; refine St.seq ?_; refine St.regionK (fun K hK => ?_); refine Ops.move rfl rfl rfl ?_; refine Ops.move rfl rfl rfl ?_; refine Ops.move rfl rfl rfl ?_; refine Ops.idxF rfl rfl rfl (by with_reducible exact sRows) (by omega) (rows_at (by omega) (by omega)) rfl ?_; refine Ops.ldNF (n := 2) rfl rfl rfl (by with_reducible exact lRow) rfl rfl ?_)
    rw [e2]
    skip
    refine Ops.callC hgo rfl (hf _ (getD_mem (by omega))) rfl rfl rfl rfl ?_
    (refine Ops.nil (hK _ _ ?_); clear hK K; refine Fin.then ?_)
    refine St.condB rfl (fun h2 => ?_) (fun h2 => ?_)
    · (refine St.seq ?_; refine St.regionK (fun K hK => ?_); refine Ops.move rfl rfl rfl ?_; refine Ops.assign rfl rfl rfl ?_; refine Ops.nil (hK _ _ ?_); clear hK K; refine Fin.then ?_; refine St.ret ?_; refine Fin.blockRet ?_; refine Fin.thenRet ?_; refine Fin.thenRet ?_; refine Fin.blockRet ?_; refine Fin.thenRet ?_)
      refine Fin.ret [_] rfl (AllRes.tmp rfl AllRes.nil) (by rw [idxI_hit (by omega) h2 hv]; rfl) rfl
    · (refine St.skip ?_; refine Fin.then ?_; refine St.regionK (fun K hK => ?_); refine Ops.ibin (iadd (by omega) (by omega)) rfl rfl rfl rfl ?_; refine Ops.move rfl rfl rfl ?_; refine Ops.nil (hK _ _ ?_); clear hK K; refine Fin.thenN ?_)
      refine Fin.next (i + 1) (by omega) ⟨by omega, ?_⟩ (by exact Entails.of rfl ⟨rfl, rfl, rfl, by simp only [Int.natCast_add]; rfl, trivial⟩)
      intro j hj
      rcases Nat.lt_or_ge j i with h3 | h3
      · exact hv j h3
      · have : j = i := by omega
        rw [this]; exact h2
  · have hi' : i = xs.length := by omega
    (refine St.exit ?_; refine Fin.then ?_; refine St.seq ?_; refine St.regionK (fun K hK => ?_); refine Ops.assign rfl rfl rfl ?_; refine Ops.nil (hK _ _ ?_); clear hK K; refine Fin.then ?_; refine St.ret ?_)
    refine Fin.ret [_] rfl (AllRes.tmp rfl AllRes.nil) (by rw [idxI_miss (fun j hj => hv j (by omega))]; rfl) rfl
theorem goIndexFunc_rows : InGo Try.prog 67 := InGo.of Try.func67 (by kernel_rfl) (by kernel_rfl)
theorem ContainsFunc_rows (xs : List Rw) (f : FuncId) (caps : List CT) (p : Rw → Bool) (hgo : InGo Try.prog f) (hf : ∀ x ∈ xs, Ok Try.prog f ([rowC x] ++ caps) (boolC (p x))) (hl : xs.length < 4611686018427387904) : Ok Try.prog 42 [rowsC xs, (.fr (closT f caps))] (boolC (xs.any p)) := by
  refine Ok.enter Try.func42 rfl _ Try.ntmps42 rfl ?_
  intro S w
  (refine St.seq ?_; refine St.regionK (fun K hK => ?_); refine Ops.assign rfl rfl rfl ?_; refine Ops.nil (hK _ _ ?_); clear hK K; refine Fin.then ?_; refine St.seq ?_; refine St.regionK (fun K hK => ?_); refine Ops.move rfl rfl rfl ?_; refine Ops.move rfl rfl rfl ?_)
  refine Ops.call goIndexFunc_rows (IndexFunc_rows xs f caps p hgo hf hl) rfl rfl rfl rfl ?_
  (refine Ops.ibin igeq rfl rfl rfl rfl ?_; refine Ops.assign rfl rfl rfl ?_; refine Ops.nil (hK _ _ ?_); clear hK K; refine Fin.then ?_; refine St.ret ?_)
  refine Fin.ret [_] rfl (AllRes.tmp rfl AllRes.nil) (by rw [← idxI_any]; rfl) rfl
theorem goContainsFunc_rows : InGo Try.prog 42 := InGo.of Try.func42 (by kernel_rfl) (by kernel_rfl)

/-- Is a coefficient out of its range? -/
def badC (x : Int) : Bool := decide (x < -1048576) || decide (1048576 < x)
theorem validCoeffs1_ok (x : Int) : Ok Try.prog 69 [intC x] (boolC (badC x)) := by
  refine Ok.enter Try.func69 rfl _ Try.ntmps69 rfl ?_
  intro S w
  (refine St.seq ?_; refine St.regionK (fun K hK => ?_); refine Ops.assign rfl rfl rfl ?_; refine Ops.nil (hK _ _ ?_); clear hK K; refine Fin.then ?_; refine St.seq ?_; refine St.regionK (fun K hK => ?_); refine Ops.move rfl rfl rfl ?_; refine Ops.ibin ilss rfl rfl rfl rfl ?_; refine Ops.move rfl rfl rfl ?_)
  refine Ops.splitP 5 rfl (fun h => ?_) (fun h => ?_)
  · (refine Ops.skip rfl rfl rfl ?_; refine Ops.skip rfl rfl rfl ?_; refine Ops.pickT rfl rfl rfl rfl ?_; refine Ops.assign rfl rfl rfl ?_; refine Ops.nil (hK _ _ ?_); clear hK K; refine Fin.then ?_; refine St.ret ?_)
    refine Fin.ret [_] rfl (AllRes.tmp rfl AllRes.nil) (by unfold badC; rw [decide_eq_true h]; rfl) rfl
  · (refine Ops.move rfl rfl rfl ?_; refine Ops.ibin igtr rfl rfl rfl rfl ?_; refine Ops.pickF rfl rfl rfl rfl ?_; refine Ops.assign rfl rfl rfl ?_; refine Ops.nil (hK _ _ ?_); clear hK K; refine Fin.then ?_; refine St.ret ?_)
    refine Fin.ret [_] rfl (AllRes.tmp rfl AllRes.nil) (by unfold badC; rw [decide_eq_false h]; rfl) rfl
theorem govalidCoeffs1 : InGo Try.prog 69 := InGo.of Try.func69 (by kernel_rfl) (by kernel_rfl)

def okCoeffs (n : Int) (xs : List Int) : Bool := decide ((xs.length : Int) ≤ n) && !xs.any badC
theorem validCoeffs_ok (n : Int) (xs : List Int) (hl : xs.length < 4611686018427387904) : Ok Try.prog 44 [intC n, intsC xs] (boolC (okCoeffs n xs)) := by
  refine Ok.enter Try.func44 rfl _ Try.ntmps44 rfl ?_
  intro S w
  (refine St.seq ?_; refine St.regionK (fun K hK => ?_); refine Ops.assign rfl rfl rfl ?_; refine Ops.nil (hK _ _ ?_); clear hK K; refine Fin.then ?_; refine St.seq ?_; refine St.regionK (fun K hK => ?_); refine Ops.move rfl rfl rfl ?_; refine Ops.lenF rfl rfl (by with_reducible first | exact sNat.und | exact sInts.und) (List.length_map ..) rfl ?_; refine Ops.move rfl rfl rfl ?_; refine Ops.ibin ileq rfl rfl rfl rfl ?_; refine Ops.move rfl rfl rfl ?_)
  refine Ops.splitP 9 rfl (fun h => ?_) (fun h => ?_)
  · (refine Ops.move rfl rfl rfl ?_)
    refine Ops.call goContainsFunc_ints (ContainsFunc_ints xs _ badC govalidCoeffs1 (fun x _ => validCoeffs1_ok x) hl) rfl rfl rfl rfl ?_
    (refine Ops.inot rfl rfl rfl ?_; refine Ops.pickT rfl rfl rfl rfl ?_; refine Ops.assign rfl rfl rfl ?_; refine Ops.nil (hK _ _ ?_); clear hK K; refine Fin.then ?_; refine St.ret ?_)
    refine Fin.ret [_] rfl (AllRes.tmp rfl AllRes.nil) (by unfold okCoeffs; rw [decide_eq_true h]; rfl) rfl
  · (refine Ops.skip rfl rfl rfl ?_; refine Ops.skip rfl rfl rfl ?_; refine Ops.skip rfl rfl rfl ?_; refine Ops.pickF rfl rfl rfl rfl ?_; refine Ops.assign rfl rfl rfl ?_; refine Ops.nil (hK _ _ ?_); clear hK K; refine Fin.then ?_; refine St.ret ?_)
    refine Fin.ret [_] rfl (AllRes.tmp rfl AllRes.nil) (by unfold okCoeffs; rw [decide_eq_false h]; rfl) rfl
theorem govalidCoeffs : InGo Try.prog 44 := InGo.of Try.func44 (by kernel_rfl) (by kernel_rfl)

end Go.Proofs.Ytgpkpmhdfcopgaa
