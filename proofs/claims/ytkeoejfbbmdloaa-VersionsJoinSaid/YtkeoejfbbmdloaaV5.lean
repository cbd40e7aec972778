/-
  Walks: ref38.Put, routescopelaw40.sorted.
-/
import Derived.Test.YtkeoejfbbmdloaaV4
namespace Go.Proofs.Ytkeoejfbbmdloaa
open Go.Own
attribute [local irreducible] St Ops Go.Own.Fin Ok OkB OkN OkT OkL OkF

/-- Where a claim is put. -/
def posN (l : List Cl) (c : Cl) : Nat → Nat
  | 0 => 0
  | k + 1 => if 0 < cmpC (l.getD k c0) c then posN l c k else k + 1
theorem posN_le (l : List Cl) (c : Cl) : ∀ k, posN l c k ≤ k
  | 0 => Nat.le_refl _
  | k + 1 => by simp only [posN]; split
                · exact Nat.le_succ_of_le (posN_le l c k)
                · exact Nat.le_refl _
theorem posN_step (l : List Cl) (c : Cl) {k : Nat} (h : 0 < k) : posN l c k = if 0 < cmpC (l.getD (k - 1) c0) c then posN l c (k - 1) else k := by
  obtain ⟨q, rfl⟩ : ∃ q, k = q + 1 := ⟨k - 1, by omega⟩
  rfl
/-- A claim is put into a list. -/
def put (l : List Cl) (c : Cl) : List Cl :=
  if posN l c l.length ≠ 0 ∧ l.getD (posN l c l.length - 1) c0 = c then l else l.take (posN l c l.length) ++ c :: l.drop (posN l c l.length)

theorem getD_memC {l : List Cl} {i : Nat} (h : i < l.length) : l.getD i c0 ∈ l := by
  rw [List.getD_eq_getElem?_getD, List.getElem?_eq_getElem h]; exact List.getElem_mem h
theorem cls_spl (l m : List Cl) (i : Nat) : spl (cls l) (i * 7) (cls m) = cls (l.take i ++ m ++ l.drop (i + m.length)) := by
  unfold spl
  rw [cls_take, cls_len, ← Nat.add_mul, cls_drop, cls_app, cls_app]
theorem shift_eq (l : List Cl) (c : Cl) {k : Nat} (hk : k ≤ l.length) : (((l ++ [c]).take (k + 1) ++ ((l ++ [c]).drop k).take (l.length + 1 - (k + 1)) ++ (l ++ [c]).drop (k + 1 + (((l ++ [c]).drop k).take (l.length + 1 - (k + 1))).length)).set k c) = l.take k ++ c :: l.drop k := by
  obtain ⟨a, b, rfl, rfl⟩ : ∃ a b, l = a ++ b ∧ a.length = k := ⟨l.take k, l.drop k, (List.take_append_drop k l).symm, by simp; omega⟩
  have h1 : (a ++ b ++ [c]).drop a.length = b ++ [c] := by rw [List.append_assoc, List.drop_left]
  have h2 : (a ++ b).length + 1 - (a.length + 1) = b.length := by simp
  have h3 : (b ++ [c]).take b.length = b := by rw [List.take_left]
  rw [h1, h2, h3, List.take_left, List.drop_left]
  obtain ⟨e, r, he⟩ : ∃ e r, b ++ [c] = e :: r := by cases b with
    | nil => exact ⟨c, [], rfl⟩
    | cons e r => exact ⟨e, r ++ [c], rfl⟩
  have h4 : (a ++ b ++ [c]).take (a.length + 1) = a ++ [e] := by rw [List.append_assoc, he, List.take_append]; simp [List.take_of_length_le]
  have h5 : (a ++ b ++ [c]).drop (a.length + 1 + b.length) = [] := by rw [List.drop_of_length_le]; simp; omega
  rw [h4, h5, List.append_nil, List.append_assoc, List.set_append_right _ _ (Nat.le_refl _)]
  simp

theorem cls_ones (l : List Cl) : ones (cls l) = true := by
  induction l with
  | nil => rfl
  | cons c l ih =>
    have : cls (c :: l) = clCs c ++ cls l := by simp [cls]
    rw [this]; exact ih
theorem goPut : InGo Try.prog 18 := InGo.of Try.func18 rfl (by decide)
set_option maxHeartbeats 8000000 in
theorem Put_ok (l : List Cl) (c : Cl) (hl : l.length ≤ 1000) (hU : ∀ x ∈ l, U x) (hc : U c) : OkT Try.prog 18 52 7 (cls l) [clC c] (cls (put l c)) := by
  refine OkT.enter Try.func18 rfl _ Try.ntmps18 rfl ?_
  intro S w h0
  (refine St.seq ?_; refine St.regionK (fun K hK => ?_); refine Ops.boxN 1 rfl rfl rfl rfl rfl rfl rfl ?_; refine Ops.assign rfl rfl rfl ?_; refine Ops.nil (hK _ _ ?_); clear hK K; refine Fin.then ?_; refine St.seq ?_; refine St.regionK (fun K hK => ?_); refine Ops.move rfl rfl rfl ?_; refine Ops.lenR _ rfl rfl rfl (by decide) (cls_len _) (by with_reducible exact sClaims.und) rfl ?_; refine Ops.assign rfl rfl rfl ?_; refine Ops.nil (hK _ _ ?_); clear hK K; refine Fin.then ?_; refine St.seq ?_; refine St.block ?_)
  refine St.loop (α := Nat) (fun k => k ≤ l.length ∧ posN l c k = posN l c l.length)
    (fun k => [(0, .own 0), (3, .own 1), (5, .ct (intC k))]) (fun _ => [(1, .box 52 (clCs c)), (0, .row 52 7 (cls l))]) (fun k => k) l.length ⟨Nat.le_refl _, rfl⟩ (by exact Entails.of rfl ⟨rfl, rfl, rfl, trivial⟩) ?_
  rintro k ⟨hk, hp⟩
  dsimp only at hk hp ⊢
  (refine St.seq ?_; refine St.seq ?_)
  refine St.drawK (by with_reducible exact mixed) 12 (.p 0 (.p 1 (.p 2 (.p 3 (.p 4 (.p 5 (.p 6 (.f 7 (.f 8 (.m 9 (.p 10 (.p 11 .done)))))))))))) (by kernel_rfl) (fun K hK => ?_)
  (refine Ops.move rfl rfl rfl ?_; refine Ops.ibin igtr rfl rfl rfl rfl ?_; refine Ops.move rfl rfl rfl ?_)
  refine Ops.splitP 10 rfl (fun h => ?_) (fun h => ?_)
  · have e1 : ((k : Int) - 1).toNat = k - 1 := by omega
    have hm := getD_memC (l := l) (i := k - 1) (by omega)
    rw [posN_step l c (by omega)] at hp
    (refine Ops.move rfl rfl rfl ?_; refine Ops.move rfl rfl rfl ?_; refine Ops.ibin (isub (by omega) (by omega)) rfl rfl rfl rfl ?_; refine Ops.idxR _ rfl rfl rfl (cls_len _) rfl (by with_reducible exact sClaims) (by omega) (by omega) rfl ?_; refine ldCl rfl rfl rfl rfl rfl (by omega) (by with_reducible exact lClaim) rfl ?_; refine Ops.ldNO (n := 7) rfl rfl rfl rfl rfl (by with_reducible exact lClaim) rfl ?_)
    rw [e1]
    generalize hx : l.getD (k - 1) c0 = x at hm hp
    refine Ops.call gorCmp (rCmp_ok x c (hU _ hm) hc) rfl rfl rfl rfl ?_
    (refine Ops.ibin igtr rfl rfl rfl rfl ?_; refine Ops.pickT rfl rfl rfl rfl ?_; refine Ops.nil (hK _ _ ?_); clear hK K; refine Fin.then ?_)
    refine St.condP rfl (fun h2 => ?_) (fun h2 => ?_)
    · rw [if_pos h2] at hp
      (refine St.skip ?_; refine Fin.then ?_; refine St.block ?_; refine St.regionK (fun K hK => ?_); refine Ops.move rfl rfl rfl ?_; refine Ops.ibin (isub (by omega) (by omega)) rfl rfl rfl rfl ?_; refine Ops.assign rfl rfl rfl ?_; refine Ops.nil (hK _ _ ?_); clear hK K; refine Fin.blockN ?_; refine Fin.thenN ?_)
      refine Fin.next (k - 1) (by omega) ⟨by omega, hp⟩ (by rw [show ((k - 1 : Nat) : Int) = (k : Int) - 1 by omega]; exact Entails.of rfl ⟨rfl, rfl, rfl, trivial⟩)
    · rw [if_neg h2] at hp
      (refine St.exit ?_; refine Fin.then ?_; refine St.seq ?_; refine St.seq ?_)
      refine St.drawK (by with_reducible exact mixed) 11 (.p 0 (.p 1 (.p 2 (.p 3 (.p 4 (.p 5 (.p 6 (.f 7 (.f 8 (.p 9 (.p 10 .done))))))))))) (by kernel_rfl) (fun K hK => ?_)
      (refine Ops.move rfl rfl rfl ?_; refine Ops.ibin igtr rfl rfl rfl rfl ?_; refine Ops.move rfl rfl rfl ?_)
      refine Ops.splitP 24 rfl (fun _ => ?_) (fun h3 => absurd h h3)
      (refine Ops.move rfl rfl rfl ?_; refine Ops.move rfl rfl rfl ?_; refine Ops.ibin (isub (by omega) (by omega)) rfl rfl rfl rfl ?_; refine Ops.idxR _ rfl rfl rfl (cls_len _) rfl (by with_reducible exact sClaims) (by omega) (by omega) rfl ?_; refine ldCl rfl rfl rfl rfl rfl (by omega) (by with_reducible exact lClaim) rfl ?_; refine Ops.ldNO (n := 7) rfl rfl rfl rfl rfl (by with_reducible exact lClaim) rfl ?_)
      rw [e1, hx]
      refine Ops.eqS (ks := clK) (clI x) (clI c) rfl rfl rfl rfl rfl (by with_reducible exact eClaim) rfl ?_
      (refine Ops.pickT rfl rfl rfl rfl ?_; refine Ops.nil (hK _ _ ?_); clear hK K; refine Fin.then ?_)
      refine St.condP rfl (fun h3 => ?_) (fun h3 => ?_)
      · have hput : put l c = l := by
          unfold put
          rw [← hp, hx, if_pos ⟨by omega, clI_inj.1 h3⟩]
        (refine St.seq ?_; refine St.regionK (fun K hK => ?_); refine Ops.move rfl rfl rfl ?_; refine Ops.assign rfl rfl rfl ?_; refine Ops.nil (hK _ _ ?_); clear hK K; refine Fin.then ?_; refine St.ret ?_; refine Fin.thenRet ?_)
        refine Fin.retT rfl rfl (by rw [hput]; rfl)
      · have hput : put l c = l.take k ++ c :: l.drop k := by
          unfold put
          rw [← hp, hx, if_neg (fun h4 => h3 (clI_inj.2 h4.2))]
        have e2 : ((k : Int) + 1).toNat = k + 1 := by omega
        have e3 : (k : Int).toNat = k := by omega
        generalize hl2' : (l ++ [c]).take (k + 1) ++ ((l ++ [c]).drop k).take (l.length + 1 - (k + 1)) ++ (l ++ [c]).drop (k + 1 + (((l ++ [c]).drop k).take (l.length + 1 - (k + 1))).length) = l2
        have hl3 : l2.set k c = l.take k ++ c :: l.drop k := by rw [← hl2']; exact shift_eq l c hk
        have hlen2 : k < l2.length := by
          have := congrArg List.length hl3
          simp at this
          omega
        have hl2 : cls l2 = spl (cls (l ++ [c])) (((k : Int) + 1).toNat * 7) (((cls (l ++ [c])).drop ((k : Int).toNat * 7)).take (min (l.length + 1 - (k : Int).toNat) (l.length + 1 - ((k : Int) + 1).toNat) * 7)) := by
          rw [e2, e3, show min (l.length + 1 - k) (l.length + 1 - (k + 1)) = l.length + 1 - (k + 1) by omega, cls_drop, cls_take, cls_spl, ← hl2']
        (refine St.skip ?_; refine Fin.then ?_; refine St.seq ?_; refine St.regionK (fun K hK => ?_); refine Ops.move rfl rfl rfl ?_; refine Ops.ldNO (n := 7) rfl rfl rfl rfl rfl (by with_reducible exact lClaim) rfl ?_)
        refine Ops.litN (n := 7) rfl rfl (by with_reducible exact sClaims) rfl rfl (by decide) rfl ?_
        refine Ops.append1 l.length (cls (l ++ [c])) rfl rfl rfl rfl (by with_reducible exact sClaims) (cls_len l) rfl (by omega) (by omega) (cls_snoc l c) rfl ?_
        (refine Ops.assign rfl rfl rfl ?_; refine Ops.nil (hK _ _ ?_); clear hK K; refine Fin.then ?_; refine St.seq ?_)
        refine St.drawK (by with_reducible exact mixed) 7 (.p 0 (.p 1 (.p 2 (.p 4 (.p 5 (.p 3 (.p 6 (.a 7 .done)))))))) (by kernel_rfl) (fun K hK => ?_)
        (refine Ops.move rfl rfl rfl ?_; refine Ops.move rfl rfl rfl ?_; refine Ops.ibin (iadd (by omega) (by omega)) rfl rfl rfl rfl ?_; refine Ops.move rfl rfl rfl ?_; refine Ops.move rfl rfl rfl ?_)
        refine Ops.copyIn (l.length + 1) (cls l2) rfl rfl rfl rfl rfl (by with_reducible exact sClaims) (by rw [cls_len]; simp) (by omega) (by omega) (by omega) (by omega) (by omega) (cls_ones _) rfl hl2 rfl rfl rfl ?_
        (refine Ops.nil (hK _ _ ?_); clear hK K; refine Fin.then ?_; refine St.seq ?_; refine St.regionK (fun K hK => ?_); refine Ops.move rfl rfl rfl ?_; refine Ops.move rfl rfl rfl ?_; refine Ops.ldNO (n := 7) rfl rfl rfl rfl rfl (by with_reducible exact lClaim) rfl ?_; refine Ops.idxR _ rfl rfl rfl (cls_len _) rfl (by with_reducible exact sClaims) (by omega) (by omega) rfl ?_; refine stCl rfl rfl rfl rfl (by omega) (by with_reducible exact szClaim) ?_; refine Ops.nil (hK _ _ ?_); clear hK K; refine Fin.then ?_; refine St.seq ?_; refine St.regionK (fun K hK => ?_); refine Ops.move rfl rfl rfl ?_; refine Ops.assign rfl rfl rfl ?_; refine Ops.nil (hK _ _ ?_); clear hK K; refine Fin.then ?_; refine St.ret ?_)
        rw [e3, hl3]
        refine Fin.retT rfl rfl (by rw [hput]; rfl)
  · have hk0 : k = 0 := by omega
    have hp0 : posN l c l.length = k := by rw [← hp, hk0]; rfl
    have hput : put l c = l.take k ++ c :: l.drop k := by
      unfold put
      rw [hp0, if_neg (fun h4 => h4.1 hk0)]
    (refine Ops.skip rfl rfl rfl ?_; refine Ops.skip rfl rfl rfl ?_; refine Ops.skip rfl rfl rfl ?_; refine Ops.skip rfl rfl rfl ?_; refine Ops.skip rfl rfl rfl ?_; refine Ops.skip rfl rfl rfl ?_; refine Ops.skip rfl rfl rfl ?_; refine Ops.skip rfl rfl rfl ?_; refine Ops.pickF rfl rfl rfl rfl ?_; refine Ops.nil (hK _ _ ?_); clear hK K; refine Fin.then ?_; refine St.condF rfl ?_; refine St.exit ?_; refine Fin.then ?_; refine St.seq ?_; refine St.seq ?_)
    refine St.drawK (by with_reducible exact mixed) 11 (.p 0 (.p 1 (.p 2 (.p 3 (.p 4 (.p 5 (.p 6 (.f 7 (.f 8 (.p 9 (.p 10 .done))))))))))) (by kernel_rfl) (fun K hK => ?_)
    (refine Ops.move rfl rfl rfl ?_; refine Ops.ibin igtr rfl rfl rfl rfl ?_; refine Ops.move rfl rfl rfl ?_)
    refine Ops.splitP 24 rfl (fun h3 => absurd h3 h) (fun _ => ?_)
    have e2 : ((k : Int) + 1).toNat = k + 1 := by omega
    have e3 : (k : Int).toNat = k := by omega
    generalize hl2' : (l ++ [c]).take (k + 1) ++ ((l ++ [c]).drop k).take (l.length + 1 - (k + 1)) ++ (l ++ [c]).drop (k + 1 + (((l ++ [c]).drop k).take (l.length + 1 - (k + 1))).length) = l2
    have hl3 : l2.set k c = l.take k ++ c :: l.drop k := by rw [← hl2']; exact shift_eq l c hk
    have hlen2 : k < l2.length := by
      have := congrArg List.length hl3
      simp at this
      omega
    have hl2 : cls l2 = spl (cls (l ++ [c])) (((k : Int) + 1).toNat * 7) (((cls (l ++ [c])).drop ((k : Int).toNat * 7)).take (min (l.length + 1 - (k : Int).toNat) (l.length + 1 - ((k : Int) + 1).toNat) * 7)) := by
      rw [e2, e3, show min (l.length + 1 - k) (l.length + 1 - (k + 1)) = l.length + 1 - (k + 1) by omega, cls_drop, cls_take, cls_spl, ← hl2']
    (refine Ops.skip rfl rfl rfl ?_; refine Ops.skip rfl rfl rfl ?_; refine Ops.skip rfl rfl rfl ?_; refine Ops.skip rfl rfl rfl ?_; refine Ops.skip rfl rfl rfl ?_; refine Ops.skip rfl rfl rfl ?_; refine Ops.skip rfl rfl rfl ?_; refine Ops.pickF rfl rfl rfl rfl ?_; refine Ops.nil (hK _ _ ?_); clear hK K; refine Fin.then ?_; refine St.condF rfl ?_; refine St.skip ?_; refine Fin.then ?_; refine St.seq ?_; refine St.regionK (fun K hK => ?_); refine Ops.move rfl rfl rfl ?_; refine Ops.ldNO (n := 7) rfl rfl rfl rfl rfl (by with_reducible exact lClaim) rfl ?_)
    refine Ops.litN (n := 7) rfl rfl (by with_reducible exact sClaims) rfl rfl (by decide) rfl ?_
    refine Ops.append1 l.length (cls (l ++ [c])) rfl rfl rfl rfl (by with_reducible exact sClaims) (cls_len l) rfl (by omega) (by omega) (cls_snoc l c) rfl ?_
    (refine Ops.assign rfl rfl rfl ?_; refine Ops.nil (hK _ _ ?_); clear hK K; refine Fin.then ?_; refine St.seq ?_)
    refine St.drawK (by with_reducible exact mixed) 7 (.p 0 (.p 1 (.p 2 (.p 4 (.p 5 (.p 3 (.p 6 (.a 7 .done)))))))) (by kernel_rfl) (fun K hK => ?_)
    (refine Ops.move rfl rfl rfl ?_; refine Ops.move rfl rfl rfl ?_; refine Ops.ibin (iadd (by omega) (by omega)) rfl rfl rfl rfl ?_; refine Ops.move rfl rfl rfl ?_; refine Ops.move rfl rfl rfl ?_)
    refine Ops.copyIn (l.length + 1) (cls l2) rfl rfl rfl rfl rfl (by with_reducible exact sClaims) (by rw [cls_len]; simp) (by omega) (by omega) (by omega) (by omega) (by omega) (cls_ones _) rfl hl2 rfl rfl rfl ?_
    (refine Ops.nil (hK _ _ ?_); clear hK K; refine Fin.then ?_; refine St.seq ?_; refine St.regionK (fun K hK => ?_); refine Ops.move rfl rfl rfl ?_; refine Ops.move rfl rfl rfl ?_; refine Ops.ldNO (n := 7) rfl rfl rfl rfl rfl (by with_reducible exact lClaim) rfl ?_; refine Ops.idxR _ rfl rfl rfl (cls_len _) rfl (by with_reducible exact sClaims) (by omega) (by omega) rfl ?_; refine stCl rfl rfl rfl rfl (by omega) (by with_reducible exact szClaim) ?_; refine Ops.nil (hK _ _ ?_); clear hK K; refine Fin.then ?_; refine St.seq ?_; refine St.regionK (fun K hK => ?_); refine Ops.move rfl rfl rfl ?_; refine Ops.assign rfl rfl rfl ?_; refine Ops.nil (hK _ _ ?_); clear hK K; refine Fin.then ?_; refine St.ret ?_)
    rw [e3, hl3]
    refine Fin.retT rfl rfl (by rw [hput]; rfl)

/-- The valid claims of a list, in their order, each once. -/
def sortC : List Cl → List Cl → List Cl
  | [], out => out
  | c :: l, out => sortC l (if validC c then put out c else out)
theorem put_mem {l : List Cl} {c x : Cl} (h : x ∈ put l c) : x ∈ l ∨ x = c := by
  unfold put at h
  split at h
  · exact .inl h
  · rcases List.mem_append.1 h with h | h
    · exact .inl (List.mem_of_mem_take h)
    · rcases List.mem_cons.1 h with h | h
      · exact .inr h
      · exact .inl (List.mem_of_mem_drop h)
theorem put_len (l : List Cl) (c : Cl) : (put l c).length ≤ l.length + 1 := by
  unfold put
  split
  · omega
  · simp; omega
theorem goLSorted : InGo Try.prog 7 := InGo.of Try.func7 rfl (by decide)
set_option maxHeartbeats 4000000 in
theorem LSorted_ok (l : List Cl) (hl : l.length ≤ 100) (hU : ∀ x ∈ l, U x) : Ok Try.prog 7 [clsC l] (clsC (sortC l [])) := by
  refine Ok.enter Try.func7 rfl _ Try.ntmps7 rfl ?_
  intro S w
  (refine St.seq ?_; refine St.regionK (fun K hK => ?_); refine Ops.assign rfl rfl rfl ?_; refine Ops.nil (hK _ _ ?_); clear hK K; refine Fin.then ?_; refine St.seq ?_; refine St.regionK (fun K hK => ?_); refine Ops.assign rfl rfl rfl ?_; refine Ops.nil (hK _ _ ?_); clear hK K; refine Fin.then ?_; refine St.seq ?_; refine St.seq ?_; refine St.regionK (fun K hK => ?_); refine Ops.move rfl rfl rfl ?_; refine Ops.lenF rfl rfl (by with_reducible first | exact sClaims.und | exact sInts.und | exact sLists.und) (List.length_map ..) rfl ?_; refine Ops.move rfl rfl rfl ?_; refine Ops.nil (hK _ _ ?_); clear hK K; refine Fin.then ?_; refine St.block ?_)
  refine St.nilRow 3 0 52 7 rfl rfl rfl ?_
  refine St.loop (α := Nat × List Cl) (fun x => x.1 ≤ l.length ∧ sortC (l.drop x.1) x.2 = sortC l [] ∧ (∀ y ∈ x.2, U y) ∧ x.2.length ≤ x.1)
    (fun x => [(3, .own 0), (6, .ct (clsC l)), (7, .ct (intC l.length)), (8, .ct (intC x.1))]) (fun x => [(0, .row 52 7 (cls x.2))]) (fun x => l.length - x.1) (0, []) ⟨Nat.zero_le _, rfl, by simp, Nat.le_refl _⟩ (by exact Entails.of rfl ⟨rfl, rfl, rfl, rfl, trivial⟩) ?_
  rintro ⟨i, out⟩ ⟨hi, hs, hu, hol⟩
  dsimp only at hi hs hu hol ⊢
  (refine St.seq ?_; refine St.regionK (fun K hK => ?_); refine Ops.ibin ilss rfl rfl rfl rfl ?_; refine Ops.nil (hK _ _ ?_); clear hK K; refine Fin.then ?_; refine St.seq ?_)
  refine St.condP rfl (fun h => ?_) (fun h => ?_)
  · have e2 : (i : Int).toNat = i := Int.toNat_natCast i
    have hm := getD_memC (l := l) (i := i) (by omega)
    rw [dropC (l := l) (i := i) (by omega)] at hs
    simp only [sortC] at hs
    (refine St.skip ?_; refine Fin.then ?_; refine St.seq ?_; refine St.block ?_; refine St.seq ?_; refine St.regionK (fun K hK => ?_); refine Ops.idxF rfl rfl rfl (by with_reducible exact sClaims) (by omega) (cls_at (by omega) (by omega)) rfl ?_; refine Ops.ldNF (n := 7) rfl rfl rfl (by with_reducible exact lClaim) rfl rfl ?_; refine Ops.alloc 1 rfl rfl (by with_reducible exact zvClaim) rfl rfl rfl ?_; refine Ops.stWN 7 rfl rfl rfl rfl rfl (by with_reducible exact szClaim) rfl rfl ?_; refine Ops.nil (hK _ _ ?_); clear hK K; refine Fin.then ?_; refine St.seq ?_; refine St.regionK (fun K hK => ?_); refine Ops.ldNO (n := 7) rfl rfl rfl rfl rfl (by with_reducible exact lClaim) rfl ?_)
    rw [e2]
    generalize l.getD i c0 = c at hm hs
    skip
    refine Ops.call gorValid (rValid_ok c) rfl rfl rfl rfl ?_
    (refine Ops.nil (hK _ _ ?_); clear hK K; refine Fin.then ?_)
    refine St.condB rfl (fun h2 => ?_) (fun h2 => ?_)
    · rw [h2, if_pos rfl] at hs
      (refine St.regionK (fun K hK => ?_); refine Ops.move rfl rfl rfl ?_; refine Ops.ldNO (n := 7) rfl rfl rfl rfl rfl (by with_reducible exact lClaim) rfl ?_)
      refine Ops.callT goPut (Put_ok out c (by omega) hu (hU _ hm)) rfl rfl rfl rfl rfl ?_
      (refine Ops.assign rfl rfl rfl ?_; refine Ops.nil (hK _ _ ?_); clear hK K; refine Fin.then ?_; refine St.regionK (fun K hK => ?_); refine Ops.ibin (iadd (by omega) (by omega)) rfl rfl rfl rfl ?_; refine Ops.move rfl rfl rfl ?_; refine Ops.nil (hK _ _ ?_); clear hK K; refine Fin.thenN ?_)
      refine Fin.dropB 1 ?_
      refine Fin.next (i + 1, put out c) (by dsimp only; omega) ⟨by dsimp only; omega, hs, fun y hy => by
        rcases put_mem hy with h3 | h3
        · exact hu y h3
        · rw [h3]; exact hU _ hm, by have := put_len out c; dsimp only; omega⟩ (by exact Entails.of rfl ⟨rfl, rfl, rfl, by simp only [Int.natCast_add]; rfl, trivial⟩)
    · rw [h2, if_neg (by decide)] at hs
      (refine St.skip ?_; refine Fin.then ?_; refine St.regionK (fun K hK => ?_); refine Ops.ibin (iadd (by omega) (by omega)) rfl rfl rfl rfl ?_; refine Ops.move rfl rfl rfl ?_; refine Ops.nil (hK _ _ ?_); clear hK K; refine Fin.thenN ?_)
      refine Fin.dropB 1 ?_
      refine Fin.next (i + 1, out) (by dsimp only; omega) ⟨by dsimp only; omega, hs, hu, by dsimp only; omega⟩ (by exact Entails.of rfl ⟨rfl, rfl, rfl, by simp only [Int.natCast_add]; rfl, trivial⟩)
  · have hi' : i = l.length := by omega
    rw [hi', List.drop_length] at hs
    refine St.freeze 0 _ rfl (cls_frozen _ _) noBor_sub ?_
    (refine St.exit ?_; refine Fin.then ?_; refine St.seq ?_; refine St.regionK (fun K hK => ?_); refine Ops.move rfl rfl rfl ?_; refine Ops.assign rfl rfl rfl ?_; refine Ops.nil (hK _ _ ?_); clear hK K; refine Fin.then ?_; refine St.ret ?_)
    refine Fin.ret [_] rfl (AllRes.tmp rfl AllRes.nil) (by rw [← hs]; rfl) rfl
end Go.Proofs.Ytkeoejfbbmdloaa
