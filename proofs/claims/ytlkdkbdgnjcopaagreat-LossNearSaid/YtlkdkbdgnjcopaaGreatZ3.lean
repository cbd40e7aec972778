/- The proof that LossNear holds for every input, without conditions: part 3 of 5. -/
import Derived.Test.YtlkdkbdgnjcopaaGreatZ2
import Derived.Shelf.SlSortCmp.NoneTotal
import Derived.Shelf.SlLaysF0
namespace Go.Own
open Go.RowKit
def partsL (L : AL) (n : Nat) : Nat → List (Nat × Operand) → List (List CT) → Prop
  | s, (i, x) :: ps, e :: es => i = s ∧ ev L x = some (.ct (.fr (aggT e))) ∧ e.length = n ∧ partsL L n (s + 1) ps es
  | _, [], [] => True
  | _, _, _ => False
theorem parts_fill {L : AL} {n : Nat} : ∀ (ps : List (Nat × Operand)) (es : List (List CT)) (s : Nat) (pre cs : List CT), partsL L n s ps es → pre.length = s * n → cs.length = ps.length * n → BParts L (fun i => some (i * n, n)) ps (pre ++ cs) (pre ++ es.flatten)
  | [], [], s, pre, cs, _, _, hc => by
    have : cs = [] := List.eq_nil_of_length_eq_zero (by simpa using hc)
    subst this
    exact .nil
  | (i, x) :: ps, e :: es, s, pre, cs, h, hp, hc => by
    obtain ⟨rfl, h2, h3, h4⟩ := h
    rw [List.length_cons, Nat.succ_mul] at hc
    have hs : spl (pre ++ cs) (i * n) e = (pre ++ e) ++ cs.drop n := by
      unfold spl
      rw [← hp, List.take_left, h3, List.drop_append, List.drop_of_length_le (by omega), List.nil_append, show pre.length + n - pre.length = n by omega]
    refine .agg rfl h2 h3 (Nat.ble_eq_true_of_le (by rw [List.length_append, hp]; omega)) ?_
    rw [hs]
    have := parts_fill ps es (i + 1) (pre ++ e) (cs.drop n) h4 (by rw [List.length_append, hp, h3, Nat.succ_mul]) (by rw [List.length_drop]; omega)
    rw [List.flatten_cons, ← List.append_assoc]; exact this
  | [], _ :: _, _, _, _, h, _, _ => h.elim
  | _ :: _, [], _, _, _, h, _, _ => h.elim
variable {X : Ctx} {L : AL} {B : BL} {ops : Array Oper} {K : Act → World → Prop} {r : Pl} {k : Kd}
  {x y z : Operand} {d : Nat} {t t2 t' : TypeId} {pos : String} {af : Array Edge} {g : Option (Nat × Bool)}
theorem Zn {el len n : Nat} {ps : List (Nat × Operand)} {zv : Value} (es : List (List CT)) (hg : gd ops L g = some true) (hT : ArrT X.P t el len n zv) (hz : zv.cells.size = ps.length * n) (hb : partsL L n 0 ps es) (hn : Nat.blt d X.n = true)
    (h : Ops X ops r ((d, .ct (.fr (aggT es.flatten))) :: L) B K) : Ops X ops (.cons ⟨some d, .build t ps.toArray, t', pos, af, g⟩ k r) L B K :=
  Xo hg hT (by
    have := parts_fill ps es 0 [] (zv.cells.toList.map CT.ex) hb (by simp) (by rw [List.length_map, Array.length_toList]; exact hz)
    simpa using this) hn h
end Go.Own
namespace Go.Own
open Go.RowKit
def memN : List Nat → Nat → Bool
  | [], _ => false
  | a :: l, x => match Nat.beq a x with
    | true => true
    | false => memN l x
theorem memN_iff : ∀ {l : List Nat} {x : Nat}, memN l x = true ↔ x ∈ l
  | [], x => by simp [memN]
  | a :: l, x => by
    unfold memN
    split
    · rename_i h
      rw [Nat.eq_of_beq_eq_true h]; simp
    · rename_i h
      have : a ≠ x := fun e => by subst e; rw [Nat.beq_refl] at h; cases h
      rw [memN_iff, List.mem_cons]
      constructor
      · exact .inr
      · rintro (rfl | h)
        · exact absurd rfl this
        · exact h
def bnd (o : Oper) : List Nat := (o.after.toList.filter (Region.binds .any)).map (·.on)
theorem mem_bnd {o : Oper} {i : Nat} : i ∈ bnd o ↔ ∃ e ∈ o.after, Region.binds .any e = true ∧ e.on = i := by
  unfold bnd
  simp only [List.mem_map, List.mem_filter, Array.mem_toList_iff]
  constructor
  · rintro ⟨e, ⟨h1, h2⟩, h3⟩; exact ⟨e, h1, h2, h3⟩
  · rintro ⟨e, h1, h2, h3⟩; exact ⟨e, ⟨h1, h2⟩, h3⟩
def noneIn (A rem : List Nat) : Bool := A.all fun x => !memN rem x
def okT (A : List Nat) (j t : Nat) : List Oper → Nat → Bool
  | [], _ => true
  | o :: r, i => (match o.dst with
    | some d => match Nat.beq d t with
      | true => Nat.beq i j || memN A i
      | false => true
    | none => true) && okT A j t r (i + 1)
def s1F (ops : Array Oper) (l : List Oper) : List Oper → Nat → Bool
  | [], _ => true
  | o :: r, j => ((o.looksAt ops).all fun t => okT (bnd o) j t l 0) && s1F ops l r (j + 1)
def s2F : List Oper → Bool
  | [] => true
  | o :: r => (match o.dst with
    | some d => r.all fun q => match q.dst with
      | some e => !Nat.beq d e
      | none => true
    | none => true) && s2F r
def inB (n : Nat) : List Oper → Bool
  | [] => true
  | o :: r => (bnd o).all (fun x => Nat.blt x n) && inB n r
theorem okT_spec {A : List Nat} {j t : Nat} : ∀ {r : List Oper} {s : Nat}, okT A j t r s = true → ∀ i, i < r.length → (nth r i).dst = some t → s + i = j ∨ (s + i) ∈ A
  | [], _, _, i, h, _ => by simp at h
  | o :: r, s, h, 0, _, hd => by
    simp only [okT, Bool.and_eq_true] at h
    have h1 := h.1
    have hd : o.dst = some t := hd
    rw [hd] at h1
    simp only [Nat.beq_refl, Bool.or_eq_true] at h1
    rcases h1 with h1 | h1
    · exact .inl (Nat.eq_of_beq_eq_true h1)
    · exact .inr (memN_iff.1 h1)
  | o :: r, s, h, i + 1, hi, hd => by
    simp only [okT, Bool.and_eq_true] at h
    have := okT_spec h.2 i (by simpa using hi) hd
    rw [show s + (i + 1) = s + 1 + i by omega]; exact this
theorem s1F_spec {ops : Array Oper} {l : List Oper} : ∀ {r : List Oper} {s : Nat}, s1F ops l r s = true → ∀ j, j < r.length → ∀ t ∈ (nth r j).looksAt ops, ∀ i, i < l.length → (nth l i).dst = some t → i = s + j ∨ i ∈ bnd (nth r j)
  | [], _, _, j, h => by simp at h
  | o :: r, s, h, 0, _ => fun t ht i hi hd => by
    simp only [s1F, Bool.and_eq_true, List.all_eq_true] at h
    have := okT_spec (h.1 t ht) i hi hd
    rw [Nat.zero_add] at this
    rcases this with h | h
    · exact .inl h
    · exact .inr h
  | o :: r, s, h, j + 1, hj => fun t ht i hi hd => by
    simp only [s1F, Bool.and_eq_true] at h
    have := s1F_spec h.2 j (by simpa using hj) t ht i hi hd
    rw [show s + (j + 1) = s + 1 + j by omega]; exact this
theorem nth_mem : ∀ {l : List Oper} {i : Nat}, i < l.length → nth l i ∈ l
  | [], i, h => by simp at h
  | o :: l, 0, _ => List.mem_cons_self ..
  | o :: l, i + 1, h => List.mem_cons_of_mem _ (nth_mem (by simpa using h))
theorem s2F_spec : ∀ {l : List Oper}, s2F l = true → ∀ i j, i < l.length → j < l.length → i ≠ j → ∀ d, (nth l i).dst = some d → (nth l j).dst ≠ some d := by
  have key : ∀ {o : Oper} {r : List Oper} {d : Nat}, s2F (o :: r) = true → o.dst = some d → ∀ j, j < r.length → (nth r j).dst ≠ some d := fun {o r d} h hd j hj he => by
    simp only [s2F, Bool.and_eq_true, hd, List.all_eq_true] at h
    have := h.1 _ (nth_mem hj)
    rw [he] at this
    simp at this
  intro l
  induction l with
  | nil => intro _ i j hi; simp at hi
  | cons o r ih =>
    intro h i j hi hj hij d hd
    have h2 : s2F r = true := by simp only [s2F, Bool.and_eq_true] at h; exact h.2
    cases i with
    | zero =>
      cases j with
      | zero => exact absurd rfl hij
      | succ j => exact key h hd j (by simpa using hj)
    | succ i =>
      cases j with
      | zero =>
        intro he
        have he : o.dst = some d := he
        exact key h he i (by simpa using hi) hd
      | succ j => exact ih h2 i j (by simpa using hi) (by simpa using hj) (by omega) d hd
theorem inB_spec {n : Nat} : ∀ {l : List Oper}, inB n l = true → ∀ i, i < l.length → ∀ x ∈ bnd (nth l i), x < n
  | [], _, i, h => by simp at h
  | o :: r, h, 0, _ => fun x hx => by
    simp only [inB, Bool.and_eq_true, List.all_eq_true] at h
    exact Nat.blt_eq ▸ h.1 x hx
  | o :: r, h, i + 1, hi => inB_spec (by simp only [inB, Bool.and_eq_true] at h; exact h.2) i (by simpa using hi)
def dropN (rem : List Nat) (i : Nat) : List Nat := rem.filter fun x => !Nat.beq x i
def readyR (l : List Oper) (rem : List Nat) : List Nat := rem.filter fun r => noneIn (bnd (nth l r)) rem
def eqN : List Nat → List Nat → Bool
  | [], [] => true
  | a :: l, b :: m => Nat.beq a b && eqN l m
  | _, _ => false
theorem eqN_eq : ∀ {l m : List Nat}, eqN l m = true → l = m
  | [], [], _ => rfl
  | a :: l, b :: m, h => by
    simp only [eqN, Bool.and_eq_true] at h
    rw [Nat.eq_of_beq_eq_true h.1, eqN_eq h.2]
  | [], _ :: _, h => by cases h
  | _ :: _, [], h => by cases h
def chkF (l : List Oper) (N : Nat) : Od → List Nat → Bool
  | .done, rem => (readyR l rem).isEmpty
  | .p i r, rem => memN rem i && noneIn (bnd (nth l i)) rem && chkF l N r (dropN rem i)
  | .f i r, rem => memN rem i && noneIn (bnd (nth l i)) rem && waitsOn l.toArray N i && chkF l N r (dropN rem i)
  | .m i r, rem => eqN (readyR l rem) [i] && Nat.blt i N && chkF l N r (dropN rem i)
  | .a i r, rem => eqN (readyR l rem) [i] && !Nat.blt i N && chkF l N r (dropN rem i)
  | .fork i r j s, rem => eqN (readyR l rem) [i, j] && Nat.blt i N && Nat.blt j N && chkF l N r (dropN rem i) && chkF l N s (dropN rem j)
def statF (l : List Oper) : Bool := s1F l.toArray l l 0 && s2F l && inB l.length l
structure Rel (l : List Oper) (rem : List Nat) (listed : Array Bool) : Prop where
  size : listed.size = l.length
  rem : rem = (List.range l.length).filter fun i => !listed.getD i true
theorem Rel.mem {l : List Oper} {rem : List Nat} {listed : Array Bool} (h : Rel l rem listed) {i : Nat} : i ∈ rem ↔ i < l.length ∧ listed.getD i true = false := by
  rw [h.rem, List.mem_filter, List.mem_range]; simp
theorem Rel.drop {l : List Oper} {rem : List Nat} {listed : Array Bool} (h : Rel l rem listed) (i : Nat) : Rel l (dropN rem i) (listed.setIfInBounds i true) := by
  refine ⟨by rw [Array.size_setIfInBounds]; exact h.size, ?_⟩
  unfold dropN
  rw [h.rem, List.filter_filter]
  apply List.filter_congr
  intro x hx
  have hx := List.mem_range.1 hx
  by_cases e : x = i
  · subst e
    have : (listed.setIfInBounds x true).getD x true = true := by
      rw [Array.getD_eq_getD_getElem?, Array.getElem?_setIfInBounds_self_of_lt (by rw [h.size]; exact hx)]; rfl
    rw [this, Nat.beq_refl]; rfl
  · rw [getD_set_ne true (Ne.symm e)]
    have : Nat.beq x i = false := by
      cases e2 : Nat.beq x i with
      | false => rfl
      | true => exact absurd (Nat.eq_of_beq_eq_true e2) e
    rw [this]; simp
theorem listed_false {l : List Oper} {rem : List Nat} {listed : Array Bool} (h : Rel l rem listed) {x : Nat} (hx : x < l.length) : listed.getD x false = true ↔ x ∉ rem := by
  have hs : x < listed.size := by rw [h.size]; exact hx
  rw [h.mem]
  have e1 : listed.getD x false = listed[x] := by simp [Array.getD, hs]
  have e2 : listed.getD x true = listed[x] := by simp [Array.getD, hs]
  rw [e1, e2]
  cases listed[x] <;> simp [hx]
theorem none_spec {l : List Oper} {rem : List Nat} {listed : Array Bool} (h : Rel l rem listed) (hB : inB l.length l = true) {i : Nat} (hi : i < l.length) : noneIn (bnd (nth l i)) rem = true ↔ ∀ e ∈ (nth l i).after, Region.binds .any e = true → listed.getD e.on false = true := by
  unfold noneIn
  rw [List.all_eq_true]
  constructor
  · intro h1 e he hb
    have hm : e.on ∈ bnd (nth l i) := mem_bnd.2 ⟨e, he, hb, rfl⟩
    rw [listed_false h (inB_spec hB i hi _ hm)]
    have := h1 _ hm
    intro h2
    rw [memN_iff.2 h2] at this; cases this
  · intro h1 x hx
    obtain ⟨e, he, hb, rfl⟩ := mem_bnd.1 hx
    have := (listed_false h (inB_spec hB i hi _ hx)).1 (h1 e he hb)
    cases e2 : memN rem e.on with
    | false => rfl
    | true => exact absurd (memN_iff.1 e2) this
theorem ready_eq {l : List Oper} {rem : List Nat} {listed : Array Bool} (h : Rel l rem listed) (hB : inB l.length l = true) : Region.ready .any l.toArray listed = readyR l rem := by
  unfold Region.ready readyR
  conv => rhs; arg 2; rw [h.rem]
  rw [List.filter_filter, List.size_toArray]
  apply List.filter_congr
  intro x hx
  have hx := List.mem_range.1 hx
  have hn := nth_eq hx
  rw [hn]
  have := none_spec h hB hx
  simp only [Option.map_some, Option.getD_some]
  rw [Bool.and_comm]
  congr 1
  apply Bool.eq_iff_iff.2
  rw [this, Array.all_eq_true_iff_forall_mem]
  constructor
  · intro h1 e he hb
    have := h1 e he
    rw [hb] at this; simpa using this
  · intro h1 e he
    cases hb : Region.binds .any e with
    | false => rfl
    | true => simpa using h1 e he hb
theorem free_of {l : List Oper} {rem : List Nat} {listed : Array Bool} (h : Rel l rem listed) (hs : statF l = true) {i : Nat} (hi : i ∈ rem) (hn : noneIn (bnd (nth l i)) rem = true) : Region.free .any l.toArray listed i = true := by
  unfold statF at hs
  simp only [Bool.and_eq_true] at hs
  obtain ⟨⟨h1, h2⟩, hB⟩ := hs
  have hil := (h.mem.1 hi).1
  unfold Region.free
  rw [nth_eq hil]
  simp only [List.all_eq_true, List.mem_range, List.size_toArray]
  intro j hj
  rw [nth_eq hj]
  by_cases hji : j = i
  · subst hji; simp
  by_cases hl : listed.getD j true = true
  · rw [hl]; simp
  have hjr : j ∈ rem := h.mem.2 ⟨hj, by simpa using hl⟩
  by_cases ha : i ∈ bnd (nth l j)
  · obtain ⟨e, he, hb, heq⟩ := mem_bnd.1 ha
    have : ((nth l j).after.any fun e => Region.binds .any e && e.on == i) = true := Array.any_eq_true'.2 ⟨e, he, by rw [hb, heq]; simp⟩
    simp only [this, Bool.true_or, Bool.or_true]
  · have hap : (nth l i).apart l.toArray (nth l j) = true := by
      unfold Oper.apart
      rw [Bool.and_eq_true]
      constructor
      · cases hd : (nth l i).dst with
        | none => rfl
        | some d =>
          have c1 : ¬ d ∈ (nth l j).looksAt l.toArray := fun hm => by
            rcases s1F_spec h1 j hj d hm i hil hd with h3 | h3
            · exact hji (by omega)
            · exact ha h3
          have c2 := s2F_spec h2 i j hil hj (Ne.symm hji) d hd
          simp only [Bool.and_eq_true, Bool.not_eq_true', bne_iff_ne, ne_eq]
          exact ⟨by simpa using c1, c2⟩
      · cases hd : (nth l j).dst with
        | none => rfl
        | some d =>
          have c1 : ¬ d ∈ (nth l i).looksAt l.toArray := fun hm => by
            rcases s1F_spec h1 i hil d hm j hj hd with h3 | h3
            · exact hji (by omega)
            · unfold noneIn at hn
              rw [List.all_eq_true] at hn
              have := hn j h3
              rw [memN_iff.2 hjr] at this; cases this
          simpa using c1
    simp only [hap, Bool.or_true]
theorem chkF_ok {l : List Oper} {N : Nat} (hs : statF l = true) : ∀ (ord : Od) (rem : List Nat) (listed : Array Bool), Rel l rem listed → chkF l N ord rem = true → chk l.toArray N ord rem.length listed = true := by
  have hB : inB l.length l = true := by unfold statF at hs; simp only [Bool.and_eq_true] at hs; exact hs.2
  have hdrop : ∀ {rem : List Nat} {listed : Array Bool} {i : Nat}, Rel l rem listed → i ∈ rem → rem.length = (dropN rem i).length + 1 := fun {rem listed i} h hi => by
    have hnd : rem.Nodup := by rw [h.rem]; exact List.nodup_range.filter _
    have e : dropN rem i = rem.erase i := by
      rw [hnd.erase_eq_filter]
      unfold dropN
      apply List.filter_congr
      intro x _
      cases e2 : Nat.beq x i with
      | true => rw [Nat.eq_of_beq_eq_true e2]; simp
      | false =>
        have : x ≠ i := fun e => by subst e; rw [Nat.beq_refl] at e2; cases e2
        simp [this]
    rw [e, List.length_erase_of_mem hi]
    have := List.length_pos_of_mem hi
    omega
  have hmem : ∀ {rem : List Nat} {i : Nat}, i ∈ readyR l rem → i ∈ rem := fun h => (List.mem_filter.1 h).1
  intro ord
  induction ord with
  | done =>
    intro rem listed h hc
    simp only [chkF] at hc
    cases hl : rem.length <;> (simp only [chk]; rw [ready_eq h hB]; exact hc)
  | p i r ih =>
    intro rem listed h hc
    simp only [chkF, Bool.and_eq_true] at hc
    obtain ⟨⟨c1, c2⟩, c3⟩ := hc
    have hi := memN_iff.1 c1
    rw [hdrop h hi]
    simp only [chk, Bool.and_eq_true]
    refine ⟨⟨?_, free_of h hs hi c2⟩, ih _ _ (h.drop i) c3⟩
    rw [ready_eq h hB, List.contains_iff_mem]
    exact List.mem_filter.2 ⟨hi, c2⟩
  | f i r ih =>
    intro rem listed h hc
    simp only [chkF, Bool.and_eq_true] at hc
    obtain ⟨⟨⟨c1, c2⟩, cw⟩, c3⟩ := hc
    have hi := memN_iff.1 c1
    rw [hdrop h hi]
    simp only [chk, Bool.and_eq_true]
    refine ⟨⟨⟨?_, free_of h hs hi c2⟩, cw⟩, ih _ _ (h.drop i) c3⟩
    rw [ready_eq h hB, List.contains_iff_mem]
    exact List.mem_filter.2 ⟨hi, c2⟩
  | m i r ih =>
    intro rem listed h hc
    simp only [chkF, Bool.and_eq_true] at hc
    obtain ⟨⟨c1, c2⟩, c3⟩ := hc
    have e := eqN_eq c1
    have hi : i ∈ rem := hmem (by rw [e]; simp)
    rw [hdrop h hi]
    simp only [chk, Bool.and_eq_true]
    exact ⟨⟨by rw [ready_eq h hB, e]; simp, c2⟩, ih _ _ (h.drop i) c3⟩
  | a i r ih =>
    intro rem listed h hc
    simp only [chkF, Bool.and_eq_true] at hc
    obtain ⟨⟨c1, c2⟩, c3⟩ := hc
    have e := eqN_eq c1
    have hi : i ∈ rem := hmem (by rw [e]; simp)
    rw [hdrop h hi]
    simp only [chk, Bool.and_eq_true]
    exact ⟨⟨by rw [ready_eq h hB, e]; simp, c2⟩, ih _ _ (h.drop i) c3⟩
  | fork i r j s ih1 ih2 =>
    intro rem listed h hc
    simp only [chkF, Bool.and_eq_true] at hc
    obtain ⟨⟨⟨⟨c1, c2⟩, c3⟩, c4⟩, c5⟩ := hc
    have e := eqN_eq c1
    have hi : i ∈ rem := hmem (by rw [e]; simp)
    have hj : j ∈ rem := hmem (by rw [e]; simp)
    have hd := hdrop h hi
    have hd2 := hdrop h hj
    rw [hd]
    simp only [chk, Bool.and_eq_true]
    refine ⟨⟨⟨⟨by rw [ready_eq h hB, e]; simp, c2⟩, c3⟩, ih1 _ _ (h.drop i) c4⟩, ?_⟩
    rw [show (dropN rem i).length = (dropN rem j).length by omega]
    exact ih2 _ _ (h.drop j) c5
theorem Rel.start (l : List Oper) : Rel l (List.range l.length) (Array.replicate l.length false) := by
  refine ⟨by simp, ?_⟩
  rw [List.filter_eq_self.2]
  intro i hi
  have hi := List.mem_range.1 hi
  simp [Array.getD, hi]
variable {X : Ctx} {L : AL} {B : BL}
theorem St.drawF {id : Nat} {l : List Oper} {Q : Exit → Act → World → Prop} (hm : X.P.follows .mixedOrders = true) (N : Nat) (ord : Od)
    (hc : (Region.noSelect l.toArray && (statF l && chkF l N ord (List.range l.length))) = true)
    (h : ∀ K, (∀ L' B', Fin X L' B' (fun a w => Q .normal a w) → Fin X L' B' K) → Ops X l.toArray (pick l ord) L B K) : St X L B (.region id l.toArray true) Q := by
  simp only [Bool.and_eq_true] at hc
  obtain ⟨h1, h2, h3⟩ := hc
  have h4 := chkF_ok h2 ord _ _ (Rel.start l) h3
  rw [List.length_range] at h4
  exact Xu hm N ord (by rw [h1, h4]; rfl) h
end Go.Own
namespace Go.Proofs.YtlkdkbdgnjcopaaGreat
open Go.Own
attribute [local irreducible] St Ops Go.Own.Fin Ok OkB OkN OkT OkL OkF
def b01 (b : Bool) : Int := if b then 1 else 0
def rsO6 (x : Rs) : List Int := [x.tm, x.va, x.ru, x.nu, IntKind.i64.wrap (x.dst.val : Int), x.pr, x.fl, x.tt, b01 x.an, b01 x.db, x.bk, IntKind.i64.wrap (x.fr.val : Int), x.ki, x.co, x.le, x.id]
def rsO (x : Rs) : List Int := [x.tm, x.va, x.ru, x.nu, IntKind.i64.wrap (x.dst.val : Int), x.pr, x.fl, x.tt, b01 x.an, b01 x.db, x.bk, IntKind.i64.wrap (x.fr.val : Int), x.ki, x.co, x.le, x.id, x.qu]
def cmpR (x y : Rs) : Int := cmpL (rsO x) (rsO y)
theorem b01_inj {a b : Bool} (h : b01 a = b01 b) : a = b := by cases a <;> cases b <;> first | rfl | cases h
theorem rsO_inj {x y : Rs} (h : rsO x = rsO y) : x = y := by
  obtain ⟨a1, a2, a3, a4, a5, a6, a7, a8, a9, a10, a11, a12, a13, a14, a15, a16, a17⟩ := x
  obtain ⟨c1, c2, c3, c4, c5, c6, c7, c8, c9, c10, c11, c12, c13, c14, c15, c16, c17⟩ := y
  simp only [rsO, wrap_fin, List.cons.injEq, and_true, Int.ofNat_inj, Fin.val_inj] at h
  obtain ⟨h1, h2, h3, h4, h5, h6, h7, h8, h9, h10, h11, h12, h13, h14, h15, h16, h17⟩ := h
  subst h1 h2 h3 h4 h5 h6 h7 h8 h11 h12 h13 h14 h15 h16 h17
  rw [b01_inj h9, b01_inj h10]
theorem aPairs17 : ArrT Tryz.prog 180 173 17 2 (.agg #[.int .i64 0, .int .i64 0, .int .i64 0, .int .i64 0, .int .i64 0, .int .i64 0, .int .i64 0, .int .i64 0, .int .i64 0, .int .i64 0, .int .i64 0, .int .i64 0, .int .i64 0, .int .i64 0, .int .i64 0, .int .i64 0, .int .i64 0, .int .i64 0, .int .i64 0, .int .i64 0, .int .i64 0, .int .i64 0, .int .i64 0, .int .i64 0, .int .i64 0, .int .i64 0, .int .i64 0, .int .i64 0, .int .i64 0, .int .i64 0, .int .i64 0, .int .i64 0, .int .i64 0, .int .i64 0]) := ⟨Tryz.underlying180, by kernel_rfl, by kernel_rfl⟩
theorem aPairs16 : ArrT Tryz.prog 198 173 16 2 (.agg #[.int .i64 0, .int .i64 0, .int .i64 0, .int .i64 0, .int .i64 0, .int .i64 0, .int .i64 0, .int .i64 0, .int .i64 0, .int .i64 0, .int .i64 0, .int .i64 0, .int .i64 0, .int .i64 0, .int .i64 0, .int .i64 0, .int .i64 0, .int .i64 0, .int .i64 0, .int .i64 0, .int .i64 0, .int .i64 0, .int .i64 0, .int .i64 0, .int .i64 0, .int .i64 0, .int .i64 0, .int .i64 0, .int .i64 0, .int .i64 0, .int .i64 0, .int .i64 0]) := ⟨Tryz.underlying198, by kernel_rfl, by kernel_rfl⟩
theorem szPairs17 : (Tryz.prog.info? 180).map (·.size) = some 34 := by kernel_rfl
theorem zvPairs17 : (Tryz.prog.info? 180).map (·.zero) = some (some (.agg #[.int .i64 0, .int .i64 0, .int .i64 0, .int .i64 0, .int .i64 0, .int .i64 0, .int .i64 0, .int .i64 0, .int .i64 0, .int .i64 0, .int .i64 0, .int .i64 0, .int .i64 0, .int .i64 0, .int .i64 0, .int .i64 0, .int .i64 0, .int .i64 0, .int .i64 0, .int .i64 0, .int .i64 0, .int .i64 0, .int .i64 0, .int .i64 0, .int .i64 0, .int .i64 0, .int .i64 0, .int .i64 0, .int .i64 0, .int .i64 0, .int .i64 0, .int .i64 0, .int .i64 0, .int .i64 0])) := by kernel_rfl
theorem lPairs17 : LdN Tryz.prog 180 34 := LdN.of _ Tryz.underlying180 rfl (by kernel_rfl)
theorem Z0 : InGo Tryz.prog 127 := InGo.of Tryz.func127 rfl (by decide)
theorem gobit : InGo Tryz.prog 142 := InGo.of Tryz.func142 rfl (by decide)
theorem gorless : InGo Tryz.prog 120 := InGo.of Tryz.func120 rfl (by decide)
theorem ZQ (b : Bool) : Ok Tryz.prog 127 [boolC b] (intC (b01 b)) := by
  refine Ok.enter Tryz.func127 rfl _ Tryz.ntmps127 rfl ?_
  intro S w
  cases b with
  | true =>
    (refine Qw (Qx fun K hK => ?_); refine Qv rfl rfl rfl ?_; refine Qj (hK _ _ (Qz (Qw (Qw ?_)))); clear hK K; refine Qx (fun K hK => ?_); refine Qq rfl rfl rfl ?_; refine Qj (hK _ _ (Qz (Qo rfl (Qw ?_)))); clear hK K; refine Qx (fun K hK => ?_); refine Qv rfl rfl rfl ?_; refine Qj (hK _ _ (Qz (Q0 (QY ?_)))); clear hK K)
    refine QU [_] rfl (QQ rfl QX) rfl rfl
  | false =>
    (refine Qw (Qx fun K hK => ?_); refine Qv rfl rfl rfl ?_; refine Qj (hK _ _ (Qz (Qw (Qw ?_)))); clear hK K; refine Qx (fun K hK => ?_); refine Qq rfl rfl rfl ?_; refine Qj (hK _ _ (Qz (Xx rfl (Q1 (Qz (Qw ?_)))))); clear hK K; refine Qx (fun K hK => ?_); refine Qv rfl rfl rfl ?_; refine Qj (hK _ _ (Qz (Q0 ?_))); clear hK K)
    refine QU [_] rfl (QQ rfl QX) rfl rfl
theorem bit_ok (b : Bool) : Ok Tryz.prog 142 [boolC b] (intC (b01 b)) := by
  refine Ok.enter Tryz.func142 rfl _ Tryz.ntmps142 rfl ?_
  intro S w
  cases b with
  | true =>
    (refine Qw (Qx fun K hK => ?_); refine Qv rfl rfl rfl ?_; refine Qj (hK _ _ (Qz (Qw (Qw ?_)))); clear hK K; refine Qx (fun K hK => ?_); refine Qq rfl rfl rfl ?_; refine Qj (hK _ _ (Qz (Qo rfl (Qw ?_)))); clear hK K; refine Qx (fun K hK => ?_); refine Qv rfl rfl rfl ?_; refine Qj (hK _ _ (Qz (Q0 (QY ?_)))); clear hK K)
    refine QU [_] rfl (QQ rfl QX) rfl rfl
  | false =>
    (refine Qw (Qx fun K hK => ?_); refine Qv rfl rfl rfl ?_; refine Qj (hK _ _ (Qz (Qw (Qw ?_)))); clear hK K; refine Qx (fun K hK => ?_); refine Qq rfl rfl rfl ?_; refine Qj (hK _ _ (Qz (Xx rfl (Q1 (Qz (Qw ?_)))))); clear hK K; refine Qx (fun K hK => ?_); refine Qv rfl rfl rfl ?_; refine Qj (hK _ _ (Qz (Q0 ?_))); clear hK K)
    refine QU [_] rfl (QQ rfl QX) rfl rfl
theorem rless_ok (p q : Int) : Ok Tryz.prog 120 [intC p, intC q] (intC (cmp3 p q)) := by
  refine Ok.enter Tryz.func120 rfl _ Tryz.ntmps120 rfl ?_
  intro S w
  (refine Qw (Qx fun K hK => ?_); refine Qv rfl rfl rfl ?_; refine Qj (hK _ _ (Qz (Qw (Q4 (Qw ?_))))); clear hK K; refine Qx (fun K hK => ?_); refine Qq rfl rfl rfl ?_; refine Qq rfl rfl rfl ?_; refine Qk ilss rfl rfl rfl rfl ?_; refine Qv rfl rfl rfl ?_; refine Qj (hK _ _ (Qz ?_)); clear hK K)
  refine Q2 rfl (fun h => ?_) (fun h => ?_)
  · (refine Qw (Qx fun K hK => ?_); refine Qv rfl rfl rfl ?_; refine Qj (hK _ _ (Qz (Q0 (Q8 (QY ?_))))); clear hK K)
    refine QU [_] rfl (QQ rfl QX) (by rw [Yj, if_pos h]; rfl) rfl
  · (refine Qw (Qx fun K hK => ?_); refine Qq rfl rfl rfl ?_; refine Qq rfl rfl rfl ?_; refine Qk igtr rfl rfl rfl rfl ?_; refine Qv rfl rfl rfl ?_; refine Qj (hK _ _ (Qz ?_)); clear hK K)
    refine Q2 rfl (fun h2 => ?_) (fun h2 => ?_)
    · (refine Qw (Qx fun K hK => ?_); refine Qv rfl rfl rfl ?_; refine Qj (hK _ _ (Qz (Q0 (Q8 (QY ?_))))); clear hK K)
      refine QU [_] rfl (QQ rfl QX) (by rw [Yj, if_neg h, if_pos h2]; rfl) rfl
    · (refine Q1 (Qz (Qw (Qx fun K hK => ?_))); refine Qv rfl rfl rfl ?_; refine Qj (hK _ _ (Qz (Q0 ?_))); clear hK K)
      refine QU [_] rfl (QQ rfl QX) (by rw [Yj, if_neg h, if_neg h2]; rfl) rfl
theorem goCmpR : InGo Tryz.prog 89 := InGo.of Tryz.func89 rfl (by decide)
theorem gorCmpR : InGo Tryz.prog 110 := InGo.of Tryz.func110 rfl (by decide)
set_option maxHeartbeats 8000000 in
theorem cmpR_ok (x y : Rs) : Ok Tryz.prog 89 [rsC x, rsC y] (intC (cmpR x y)) := by
  refine Ok.enter Tryz.func89 rfl _ Tryz.ntmps89 rfl ?_
  intro S w
  (refine Qw (Qx fun K hK => ?_); refine Xk 0 rfl rfl rfl rfl rfl rfl rfl ?_; refine Xk 1 rfl rfl rfl rfl rfl rfl rfl ?_; refine Qv rfl rfl rfl ?_; refine Qj (hK _ _ (Qz (Qw ?_))); clear hK K)
  refine St.drawF (by with_reducible exact mixed) 107 (.p 0 (.p 2 (.p 5 (.p 7 (.p 10 (.p 12 (.p 15 (.p 17 (.p 20 (.p 23 (.p 27 (.p 29 (.p 32 (.p 34 (.p 37 (.p 39 (.p 42 (.p 45 (.p 49 (.p 52 (.p 56 (.p 58 (.p 61 (.p 62 (.p 65 (.p 66 (.p 70 (.p 71 (.p 73 (.p 74 (.p 77 (.p 78 (.p 80 (.p 81 (.p 84 (.p 85 (.p 87 (.p 88 (.p 91 (.p 92 (.p 94 (.p 95 (.p 98 (.p 99 (.p 101 (.p 102 (.f 1 (.f 3 (.p 4 (.f 6 (.f 8 (.p 9 (.f 11 (.f 13 (.p 14 (.f 16 (.f 18 (.p 19 (.f 21 (.p 22 (.f 24 (.p 25 (.p 26 (.f 28 (.f 30 (.p 31 (.f 33 (.f 35 (.p 36 (.f 38 (.f 40 (.p 41 (.f 43 (.f 46 (.f 50 (.f 53 (.f 57 (.f 59 (.p 60 (.f 63 (.p 64 (.f 67 (.p 68 (.p 69 (.f 72 (.f 75 (.p 76 (.f 79 (.f 82 (.p 83 (.f 86 (.f 89 (.p 90 (.f 93 (.f 96 (.p 97 (.f 100 (.f 103 (.p 104 (.fork 44 (.fork 47 (.p 48 (.fork 51 (.fork 54 (.p 55 (.p 105 (.m 106 (.a 107 .done)))) 106 (.m 54 (.p 55 (.p 105 (.a 107 .done))))) 106 (.m 51 (.m 54 (.p 55 (.p 105 (.a 107 .done))))))) 106 (.m 47 (.p 48 (.m 51 (.m 54 (.p 55 (.p 105 (.a 107 .done)))))))) 106 (.m 44 (.m 47 (.p 48 (.m 51 (.m 54 (.p 55 (.p 105 (.a 107 .done)))))))))))))))))))))))))))))))))))))))))))))))))))))))))))))))))))))))))))))))))))))))))))))))))))))))))))) (by kernel_rfl) (fun K hK => ?_)
  refine (fun (cont : Go.Own.Fin _ [(5, .own 2)] [(2, .box 180 (prs (rsO x) (rsO y)).flatten), (1, .box 35 (rsCs y)), (0, .box 35 (rsCs x))] K) => ?_) (hK _ _ ?_)
  · clear hK
    refine Ops.batchP rsT_ok 99 (.fork 44 (.fork 47 (.p 48 (.fork 51 (.fork 54 (.p 55 (.p 105 (.m 106 (.a 107 .done)))) 106 (.m 54 (.p 55 (.p 105 (.a 107 .done))))) 106 (.m 51 (.m 54 (.p 55 (.p 105 (.a 107 .done))))))) 106 (.m 47 (.p 48 (.m 51 (.m 54 (.p 55 (.p 105 (.a 107 .done)))))))) 106 (.m 44 (.m 47 (.p 48 (.m 51 (.m 54 (.p 55 (.p 105 (.a 107 .done))))))))) ((113, .ct (.fr (aggT (pr (x.qu) (y.qu))))) :: (112, .ct (intC y.qu)) :: (109, .ct (intC x.qu)) :: (106, .ct (.fr (aggT (pr (x.id) (y.id))))) :: (105, .ct (intC y.id)) :: (102, .ct (intC x.id)) :: (99, .ct (.fr (aggT (pr (x.le) (y.le))))) :: (98, .ct (intC y.le)) :: (95, .ct (intC x.le)) :: (92, .ct (.fr (aggT (pr (x.co) (y.co))))) :: (91, .ct (intC y.co)) :: (88, .ct (intC x.co)) :: (85, .ct (.fr (aggT (pr (x.ki) (y.ki))))) :: (84, .ct (intC y.ki)) :: (81, .ct (intC x.ki)) :: (78, .ct (.fr (aggT (pr (IntKind.i64.wrap (x.fr.val : Int)) (IntKind.i64.wrap (y.fr.val : Int)))))) :: (77, .ct (intC (IntKind.i64.wrap (y.fr.val : Int)))) :: (76, .ct (adrC y.fr.val)) :: (73, .ct (intC (IntKind.i64.wrap (x.fr.val : Int)))) :: (72, .ct (adrC x.fr.val)) :: (69, .ct (.fr (aggT (pr (x.bk) (y.bk))))) :: (68, .ct (intC y.bk)) :: (66, .ct (intC x.bk)) :: (62, .ct (boolC y.db)) :: (59, .ct (boolC x.db)) :: (55, .ct (boolC y.an)) :: (52, .ct (boolC x.an)) :: (50, .ct (.fr (aggT (pr (x.tt) (y.tt))))) :: (49, .ct (intC y.tt)) :: (47, .ct (intC x.tt)) :: (45, .ct (.fr (aggT (pr (x.fl) (y.fl))))) :: (44, .ct (intC y.fl)) :: (42, .ct (intC x.fl)) :: (40, .ct (.fr (aggT (pr (x.pr) (y.pr))))) :: (39, .ct (intC y.pr)) :: (37, .ct (intC x.pr)) :: (35, .ct (.fr (aggT (pr (IntKind.i64.wrap (x.dst.val : Int)) (IntKind.i64.wrap (y.dst.val : Int)))))) :: (34, .ct (intC (IntKind.i64.wrap (y.dst.val : Int)))) :: (33, .ct (adrC y.dst.val)) :: (31, .ct (intC (IntKind.i64.wrap (x.dst.val : Int)))) :: (30, .ct (adrC x.dst.val)) :: (28, .ct (.fr (aggT (pr (x.nu) (y.nu))))) :: (27, .ct (intC y.nu)) :: (25, .ct (intC x.nu)) :: (23, .ct (.fr (aggT (pr (x.ru) (y.ru))))) :: (22, .ct (intC y.ru)) :: (20, .ct (intC x.ru)) :: (18, .ct (.fr (aggT (pr (x.va) (y.va))))) :: (17, .ct (intC y.va)) :: (15, .ct (intC x.va)) :: (13, .ct (.fr (aggT (pr (x.tm) (y.tm))))) :: (12, .ct (intC y.tm)) :: (10, .ct (intC x.tm)) :: (111, .loc 1 16) :: (110, .loc 1 11) :: (108, .loc 0 16) :: (107, .loc 0 11) :: (104, .loc 1 15) :: (103, .loc 1 11) :: (101, .loc 0 15) :: (100, .loc 0 11) :: (97, .loc 1 14) :: (96, .loc 1 11) :: (94, .loc 0 14) :: (93, .loc 0 11) :: (90, .loc 1 13) :: (89, .loc 1 11) :: (87, .loc 0 13) :: (86, .loc 0 11) :: (83, .loc 1 12) :: (82, .loc 1 11) :: (80, .loc 0 12) :: (79, .loc 0 11) :: (75, .loc 1 11) :: (74, .loc 1 11) :: (71, .loc 0 11) :: (70, .loc 0 11) :: (67, .loc 1 10) :: (65, .loc 0 10) :: (61, .loc 1 9) :: (58, .loc 0 9) :: (54, .loc 1 8) :: (51, .loc 0 8) :: (48, .loc 1 7) :: (46, .loc 0 7) :: (43, .loc 1 6) :: (41, .loc 0 6) :: (38, .loc 1 5) :: (36, .loc 0 5) :: (32, .loc 1 4) :: (29, .loc 0 4) :: (26, .loc 1 2) :: (24, .loc 0 2) :: (21, .loc 1 1) :: (19, .loc 0 1) :: (16, .loc 1 0) :: (14, .loc 0 0) :: (11, .loc 1 3) :: (9, .loc 0 3) :: (4, .ct (intC 0)) :: (3, .own 1) :: (2, .own 0) :: argL 0 [rsC x, rsC y]) (by kernel_rfl) [(2, .own 0), (3, .own 1), (13, .ct (.fr (aggT (pr (x.tm) (y.tm))))), (18, .ct (.fr (aggT (pr (x.va) (y.va))))), (23, .ct (.fr (aggT (pr (x.ru) (y.ru))))), (28, .ct (.fr (aggT (pr (x.nu) (y.nu))))), (35, .ct (.fr (aggT (pr (IntKind.i64.wrap (x.dst.val : Int)) (IntKind.i64.wrap (y.dst.val : Int)))))), (40, .ct (.fr (aggT (pr (x.pr) (y.pr))))), (45, .ct (.fr (aggT (pr (x.fl) (y.fl))))), (50, .ct (.fr (aggT (pr (x.tt) (y.tt))))), (69, .ct (.fr (aggT (pr (x.bk) (y.bk))))), (78, .ct (.fr (aggT (pr (IntKind.i64.wrap (x.fr.val : Int)) (IntKind.i64.wrap (y.fr.val : Int)))))), (85, .ct (.fr (aggT (pr (x.ki) (y.ki))))), (92, .ct (.fr (aggT (pr (x.co) (y.co))))), (99, .ct (.fr (aggT (pr (x.le) (y.le))))), (106, .ct (.fr (aggT (pr (x.id) (y.id))))), (113, .ct (.fr (aggT (pr (x.qu) (y.qu))))), (52, .ct (boolC x.an)), (55, .ct (boolC y.an)), (59, .ct (boolC x.db)), (62, .ct (boolC y.db))] ⟨rfl, rfl, rfl, rfl, rfl, rfl, rfl, rfl, rfl, rfl, rfl, rfl, rfl, rfl, rfl, rfl, rfl, rfl, rfl, rfl, rfl, trivial⟩ ?_
    refine Ops.fork ?_ ?_
    · refine QW Z0 (ZQ x.an) rfl rfl rfl rfl ?_
      refine Ops.fork ?_ ?_
      · refine QW Z0 (ZQ y.an) rfl rfl rfl rfl ?_
        refine Xo (n := 1) (cs := pr (b01 x.an) (b01 y.an)) rfl (by with_reducible exact Zm) (.one rfl rfl rfl rfl (.one rfl rfl rfl rfl .nil)) rfl ?_
        refine Ops.fork ?_ ?_
        · refine QW Z0 (ZQ x.db) rfl rfl rfl rfl ?_
          refine Ops.fork ?_ ?_
          · refine QW Z0 (ZQ y.db) rfl rfl rfl rfl ?_
            refine Xo (n := 1) (cs := pr (b01 x.db) (b01 y.db)) rfl (by with_reducible exact Zm) (.one rfl rfl rfl rfl (.one rfl rfl rfl rfl .nil)) rfl ?_
            refine Zn (n := 2) (prs (rsO x) (rsO y)) rfl (by with_reducible exact aPairs17) rfl ⟨rfl, rfl, rfl, rfl, rfl, rfl, rfl, rfl, rfl, rfl, rfl, rfl, rfl, rfl, rfl, rfl, rfl, rfl, rfl, rfl, rfl, rfl, rfl, rfl, rfl, rfl, rfl, rfl, rfl, rfl, rfl, rfl, rfl, rfl, rfl, rfl, rfl, rfl, rfl, rfl, rfl, rfl, rfl, rfl, rfl, rfl, rfl, rfl, rfl, rfl, rfl, trivial⟩ rfl ?_
            refine Qh 2 rfl rfl (by with_reducible exact zvPairs17) rfl rfl rfl ?_
            refine Qe 34 rfl rfl rfl rfl rfl (by with_reducible exact szPairs17) rfl rfl ?_
            exact Qj (Fin.keep [(5, .own 2)] ⟨rfl, trivial⟩ cont)
          · refine Qh 2 rfl rfl (by with_reducible exact zvPairs17) rfl rfl rfl ?_
            refine QW Z0 (ZQ y.db) rfl rfl rfl rfl ?_
            refine Xo (n := 1) (cs := pr (b01 x.db) (b01 y.db)) rfl (by with_reducible exact Zm) (.one rfl rfl rfl rfl (.one rfl rfl rfl rfl .nil)) rfl ?_
            refine Zn (n := 2) (prs (rsO x) (rsO y)) rfl (by with_reducible exact aPairs17) rfl ⟨rfl, rfl, rfl, rfl, rfl, rfl, rfl, rfl, rfl, rfl, rfl, rfl, rfl, rfl, rfl, rfl, rfl, rfl, rfl, rfl, rfl, rfl, rfl, rfl, rfl, rfl, rfl, rfl, rfl, rfl, rfl, rfl, rfl, rfl, rfl, rfl, rfl, rfl, rfl, rfl, rfl, rfl, rfl, rfl, rfl, rfl, rfl, rfl, rfl, rfl, rfl, trivial⟩ rfl ?_
            refine Qe 34 rfl rfl rfl rfl rfl (by with_reducible exact szPairs17) rfl rfl ?_
            exact Qj (Fin.keep [(5, .own 2)] ⟨rfl, trivial⟩ cont)
        · refine Qh 2 rfl rfl (by with_reducible exact zvPairs17) rfl rfl rfl ?_
          refine QW Z0 (ZQ x.db) rfl rfl rfl rfl ?_
          refine QW Z0 (ZQ y.db) rfl rfl rfl rfl ?_
          refine Xo (n := 1) (cs := pr (b01 x.db) (b01 y.db)) rfl (by with_reducible exact Zm) (.one rfl rfl rfl rfl (.one rfl rfl rfl rfl .nil)) rfl ?_
          refine Zn (n := 2) (prs (rsO x) (rsO y)) rfl (by with_reducible exact aPairs17) rfl ⟨rfl, rfl, rfl, rfl, rfl, rfl, rfl, rfl, rfl, rfl, rfl, rfl, rfl, rfl, rfl, rfl, rfl, rfl, rfl, rfl, rfl, rfl, rfl, rfl, rfl, rfl, rfl, rfl, rfl, rfl, rfl, rfl, rfl, rfl, rfl, rfl, rfl, rfl, rfl, rfl, rfl, rfl, rfl, rfl, rfl, rfl, rfl, rfl, rfl, rfl, rfl, trivial⟩ rfl ?_
          refine Qe 34 rfl rfl rfl rfl rfl (by with_reducible exact szPairs17) rfl rfl ?_
          exact Qj (Fin.keep [(5, .own 2)] ⟨rfl, trivial⟩ cont)
      · refine Qh 2 rfl rfl (by with_reducible exact zvPairs17) rfl rfl rfl ?_
        refine QW Z0 (ZQ y.an) rfl rfl rfl rfl ?_
        refine Xo (n := 1) (cs := pr (b01 x.an) (b01 y.an)) rfl (by with_reducible exact Zm) (.one rfl rfl rfl rfl (.one rfl rfl rfl rfl .nil)) rfl ?_
        refine QW Z0 (ZQ x.db) rfl rfl rfl rfl ?_
        refine QW Z0 (ZQ y.db) rfl rfl rfl rfl ?_
        refine Xo (n := 1) (cs := pr (b01 x.db) (b01 y.db)) rfl (by with_reducible exact Zm) (.one rfl rfl rfl rfl (.one rfl rfl rfl rfl .nil)) rfl ?_
        refine Zn (n := 2) (prs (rsO x) (rsO y)) rfl (by with_reducible exact aPairs17) rfl ⟨rfl, rfl, rfl, rfl, rfl, rfl, rfl, rfl, rfl, rfl, rfl, rfl, rfl, rfl, rfl, rfl, rfl, rfl, rfl, rfl, rfl, rfl, rfl, rfl, rfl, rfl, rfl, rfl, rfl, rfl, rfl, rfl, rfl, rfl, rfl, rfl, rfl, rfl, rfl, rfl, rfl, rfl, rfl, rfl, rfl, rfl, rfl, rfl, rfl, rfl, rfl, trivial⟩ rfl ?_
        refine Qe 34 rfl rfl rfl rfl rfl (by with_reducible exact szPairs17) rfl rfl ?_
        exact Qj (Fin.keep [(5, .own 2)] ⟨rfl, trivial⟩ cont)
    · refine Qh 2 rfl rfl (by with_reducible exact zvPairs17) rfl rfl rfl ?_
      refine QW Z0 (ZQ x.an) rfl rfl rfl rfl ?_
      refine QW Z0 (ZQ y.an) rfl rfl rfl rfl ?_
      refine Xo (n := 1) (cs := pr (b01 x.an) (b01 y.an)) rfl (by with_reducible exact Zm) (.one rfl rfl rfl rfl (.one rfl rfl rfl rfl .nil)) rfl ?_
      refine QW Z0 (ZQ x.db) rfl rfl rfl rfl ?_
      refine QW Z0 (ZQ y.db) rfl rfl rfl rfl ?_
      refine Xo (n := 1) (cs := pr (b01 x.db) (b01 y.db)) rfl (by with_reducible exact Zm) (.one rfl rfl rfl rfl (.one rfl rfl rfl rfl .nil)) rfl ?_
      refine Zn (n := 2) (prs (rsO x) (rsO y)) rfl (by with_reducible exact aPairs17) rfl ⟨rfl, rfl, rfl, rfl, rfl, rfl, rfl, rfl, rfl, rfl, rfl, rfl, rfl, rfl, rfl, rfl, rfl, rfl, rfl, rfl, rfl, rfl, rfl, rfl, rfl, rfl, rfl, rfl, rfl, rfl, rfl, rfl, rfl, rfl, rfl, rfl, rfl, rfl, rfl, rfl, rfl, rfl, rfl, rfl, rfl, rfl, rfl, rfl, rfl, rfl, rfl, trivial⟩ rfl ?_
      refine Qe 34 rfl rfl rfl rfl rfl (by with_reducible exact szPairs17) rfl rfl ?_
      exact Qj (Fin.keep [(5, .own 2)] ⟨rfl, trivial⟩ cont)
  clear hK K
  have hlx : (rsO x).length = 17 := rfl
  have hly : (rsO y).length = 17 := rfl
  have h0 : cmpL ((rsO x).drop 0) ((rsO y).drop 0) = cmpR x y := rfl
  generalize rsO x = xs at hlx h0 ⊢
  generalize rsO y = ys at hly h0 ⊢
  generalize cmpR x y = R at h0 ⊢
  have hfl : ((prs xs ys).flatten).length = 34 := by rw [Zu (k := 2) (prs_len xs ys)]; simp [prs, hlx, hly]
  (refine Qz (Qw (Qw (Qx fun K hK => ?_))))
  refine Qa (n := 34) rfl rfl rfl rfl hfl (by with_reducible exact lPairs17) rfl ?_
  (refine Qq rfl rfl rfl ?_; refine Qj (hK _ _ (Qz (Q4 ?_))); clear hK K)
  refine Xz (α := Nat) (fun j => j ≤ 17 ∧ cmpL (xs.drop j) (ys.drop j) = R)
    (fun j => [(115, .ct (.fr (aggT (prs xs ys).flatten))), (116, .ct (intC j))]) (fun _ => [(2, .box 180 (prs xs ys).flatten), (1, .box 35 (rsCs y)), (0, .box 35 (rsCs x))]) (fun j => 17 - j) 0 ⟨Nat.zero_le _, h0⟩ (by exact Qu rfl ⟨rfl, rfl, trivial⟩) ?_
  rintro j ⟨hj, hc⟩
  dsimp only at hj hc ⊢
  (refine Qw (Qx fun K hK => ?_); refine Qk ilss rfl rfl rfl rfl ?_; refine Qj (hK _ _ (Qz (Qw ?_))); clear hK K)
  refine Q2 rfl (fun h => ?_) (fun h => ?_)
  · have h1 : j < xs.length := by omega
    have h2 : j < ys.length := by omega
    have hdr := cmpL_drop h1 h2
    have hat := prs_at h1 h2
    generalize xs.getD j 0 = p at hdr hat
    generalize ys.getD j 0 = q at hdr hat
    (refine Q1 (Qz (Qw (Q4 (Qw (Qx fun K hK => ?_))))))
    refine Ops.idxV (n := 2) rfl rfl rfl (by with_reducible exact aPairs17) (by with_reducible exact uPair) rfl (prs_len xs ys) (by omega) (by omega) (by rw [Int.toNat_natCast]; exact hat) rfl ?_
    refine Qh 3 rfl rfl (by with_reducible exact zvPair) rfl rfl rfl ?_
    refine Qe 2 rfl rfl rfl rfl rfl (by with_reducible exact szPair) rfl rfl ?_
    (refine Qj (hK _ _ (Qz (Qw ?_))); clear hK K; refine Qx (fun K hK => ?_))
    refine Z7 (n := 1) rfl rfl rfl rfl (by with_reducible exact Zm) (by decide) (by decide) rfl ?_
    (refine QJ rfl rfl rfl rfl rfl (by with_reducible first | exact lInt | exact Q9 | exact Q6 | exact lRess) rfl ?_)
    refine Z7 (n := 1) rfl rfl rfl rfl (by with_reducible exact Zm) (by decide) (by decide) rfl ?_
    (refine QJ rfl rfl rfl rfl rfl (by with_reducible first | exact lInt | exact Q9 | exact Q6 | exact lRess) rfl ?_)
    refine QW gocm (cm_ok p q) rfl rfl rfl rfl ?_
    (refine Qv rfl rfl rfl ?_; refine Qj (hK _ _ (Qz (Qw ?_))); clear hK K; refine Qx (fun K hK => ?_); refine Qq rfl rfl rfl ?_; refine Qk ineq rfl rfl rfl rfl ?_; refine Qj (hK _ _ (Qz ?_)); clear hK K)
    refine Q2 rfl (fun h3 => ?_) (fun h3 => ?_)
    · (refine Qw (Qx fun K hK => ?_); refine Qq rfl rfl rfl ?_; refine Qv rfl rfl rfl ?_; refine Qj (hK _ _ (Qz (Q0 (Q8 (QY (QY (Q8 (QY ?_)))))))); clear hK K)
      refine QU [_] rfl (QQ rfl QX) (by rw [← hc, hdr, if_pos h3]; rfl) rfl
    · (refine Q1 (Qz (Qx fun K hK => ?_)); refine Qk (iadd (by omega) (by omega)) rfl rfl rfl rfl ?_; refine Qq rfl rfl rfl ?_; refine Qj (hK _ _ (Q3 ?_)); clear hK K)
      rw [if_neg h3] at hdr
      refine Qm 3 ?_
      refine Q7 (j + 1) (by omega) ⟨by omega, by rw [← hc, hdr]⟩ (by exact Qu rfl ⟨rfl, by simp only [Int.natCast_add]; rfl, trivial⟩)
  · (refine Qn (Qz (Qw (Qx fun K hK => ?_))); refine Qv rfl rfl rfl ?_; refine Qj (hK _ _ (Qz (Q0 ?_))); clear hK K)
    have hj' : j = 17 := by omega
    refine QU [_] rfl (QQ rfl QX) (by rw [← hc, hj', List.drop_of_length_le (by omega)]; rfl) rfl
set_option maxHeartbeats 8000000 in
theorem rcmpR_ok (x y : Rs) : Ok Tryz.prog 110 [rsC x, rsC y] (intC (cmpR x y)) := by
  have hR : cmpR x y = cmpL (rsO6 x ++ [x.qu]) (rsO6 y ++ [y.qu]) := rfl
  refine Ok.enter Tryz.func110 rfl _ Tryz.ntmps110 rfl ?_
  intro S w
  (refine Qw (Qx fun K hK => ?_); refine Xk 0 rfl rfl rfl rfl rfl rfl rfl ?_; refine Xk 1 rfl rfl rfl rfl rfl rfl rfl ?_; refine Qv rfl rfl rfl ?_; refine Qj (hK _ _ (Qz (Qw (Qw ?_)))); clear hK K)
  refine St.drawF (by with_reducible exact mixed) 100 (.p 0 (.p 2 (.p 5 (.p 7 (.p 10 (.p 12 (.p 15 (.p 17 (.p 20 (.p 23 (.p 27 (.p 29 (.p 32 (.p 34 (.p 37 (.p 39 (.p 42 (.p 45 (.p 49 (.p 52 (.p 56 (.p 58 (.p 61 (.p 62 (.p 65 (.p 66 (.p 70 (.p 71 (.p 73 (.p 74 (.p 77 (.p 78 (.p 80 (.p 81 (.p 84 (.p 85 (.p 87 (.p 88 (.p 91 (.p 92 (.p 94 (.p 95 (.p 99 (.f 1 (.f 3 (.p 4 (.f 6 (.f 8 (.p 9 (.f 11 (.f 13 (.p 14 (.f 16 (.f 18 (.p 19 (.f 21 (.p 22 (.f 24 (.p 25 (.p 26 (.f 28 (.f 30 (.p 31 (.f 33 (.f 35 (.p 36 (.f 38 (.f 40 (.p 41 (.f 43 (.f 46 (.f 50 (.f 53 (.f 57 (.f 59 (.p 60 (.f 63 (.p 64 (.f 67 (.p 68 (.p 69 (.f 72 (.f 75 (.p 76 (.f 79 (.f 82 (.p 83 (.f 86 (.f 89 (.p 90 (.f 93 (.f 96 (.p 97 (.m 44 (.m 47 (.p 48 (.m 51 (.m 54 (.p 55 (.p 98 .done)))))))))))))))))))))))))))))))))))))))))))))))))))))))))))))))))))))))))))))))))))))))))))))))))))) (by kernel_rfl) (fun K hK => ?_)
  refine Ops.batchP rsT_ok 93 (.m 44 (.m 47 (.p 48 (.m 51 (.m 54 (.p 55 (.p 98 .done))))))) ((104, .ct (.fr (aggT (pr (x.id) (y.id))))) :: (103, .ct (intC y.id)) :: (100, .ct (intC x.id)) :: (97, .ct (.fr (aggT (pr (x.le) (y.le))))) :: (96, .ct (intC y.le)) :: (93, .ct (intC x.le)) :: (90, .ct (.fr (aggT (pr (x.co) (y.co))))) :: (89, .ct (intC y.co)) :: (86, .ct (intC x.co)) :: (83, .ct (.fr (aggT (pr (x.ki) (y.ki))))) :: (82, .ct (intC y.ki)) :: (79, .ct (intC x.ki)) :: (76, .ct (.fr (aggT (pr (IntKind.i64.wrap (x.fr.val : Int)) (IntKind.i64.wrap (y.fr.val : Int)))))) :: (75, .ct (intC (IntKind.i64.wrap (y.fr.val : Int)))) :: (74, .ct (adrC y.fr.val)) :: (71, .ct (intC (IntKind.i64.wrap (x.fr.val : Int)))) :: (70, .ct (adrC x.fr.val)) :: (67, .ct (.fr (aggT (pr (x.bk) (y.bk))))) :: (66, .ct (intC y.bk)) :: (64, .ct (intC x.bk)) :: (60, .ct (boolC y.db)) :: (57, .ct (boolC x.db)) :: (53, .ct (boolC y.an)) :: (50, .ct (boolC x.an)) :: (48, .ct (.fr (aggT (pr (x.tt) (y.tt))))) :: (47, .ct (intC y.tt)) :: (45, .ct (intC x.tt)) :: (43, .ct (.fr (aggT (pr (x.fl) (y.fl))))) :: (42, .ct (intC y.fl)) :: (40, .ct (intC x.fl)) :: (38, .ct (.fr (aggT (pr (x.pr) (y.pr))))) :: (37, .ct (intC y.pr)) :: (35, .ct (intC x.pr)) :: (33, .ct (.fr (aggT (pr (IntKind.i64.wrap (x.dst.val : Int)) (IntKind.i64.wrap (y.dst.val : Int)))))) :: (32, .ct (intC (IntKind.i64.wrap (y.dst.val : Int)))) :: (31, .ct (adrC y.dst.val)) :: (29, .ct (intC (IntKind.i64.wrap (x.dst.val : Int)))) :: (28, .ct (adrC x.dst.val)) :: (26, .ct (.fr (aggT (pr (x.nu) (y.nu))))) :: (25, .ct (intC y.nu)) :: (23, .ct (intC x.nu)) :: (21, .ct (.fr (aggT (pr (x.ru) (y.ru))))) :: (20, .ct (intC y.ru)) :: (18, .ct (intC x.ru)) :: (16, .ct (.fr (aggT (pr (x.va) (y.va))))) :: (15, .ct (intC y.va)) :: (13, .ct (intC x.va)) :: (11, .ct (.fr (aggT (pr (x.tm) (y.tm))))) :: (10, .ct (intC y.tm)) :: (8, .ct (intC x.tm)) :: (106, .ct (intC 0)) :: (102, .loc 1 15) :: (101, .loc 1 11) :: (99, .loc 0 15) :: (98, .loc 0 11) :: (95, .loc 1 14) :: (94, .loc 1 11) :: (92, .loc 0 14) :: (91, .loc 0 11) :: (88, .loc 1 13) :: (87, .loc 1 11) :: (85, .loc 0 13) :: (84, .loc 0 11) :: (81, .loc 1 12) :: (80, .loc 1 11) :: (78, .loc 0 12) :: (77, .loc 0 11) :: (73, .loc 1 11) :: (72, .loc 1 11) :: (69, .loc 0 11) :: (68, .loc 0 11) :: (65, .loc 1 10) :: (63, .loc 0 10) :: (59, .loc 1 9) :: (56, .loc 0 9) :: (52, .loc 1 8) :: (49, .loc 0 8) :: (46, .loc 1 7) :: (44, .loc 0 7) :: (41, .loc 1 6) :: (39, .loc 0 6) :: (36, .loc 1 5) :: (34, .loc 0 5) :: (30, .loc 1 4) :: (27, .loc 0 4) :: (24, .loc 1 2) :: (22, .loc 0 2) :: (19, .loc 1 1) :: (17, .loc 0 1) :: (14, .loc 1 0) :: (12, .loc 0 0) :: (9, .loc 1 3) :: (7, .loc 0 3) :: (4, .ct (intC 0)) :: (3, .own 1) :: (2, .own 0) :: argL 0 [rsC x, rsC y]) (by kernel_rfl) [(2, .own 0), (3, .own 1), (11, .ct (.fr (aggT (pr (x.tm) (y.tm))))), (16, .ct (.fr (aggT (pr (x.va) (y.va))))), (21, .ct (.fr (aggT (pr (x.ru) (y.ru))))), (26, .ct (.fr (aggT (pr (x.nu) (y.nu))))), (33, .ct (.fr (aggT (pr (IntKind.i64.wrap (x.dst.val : Int)) (IntKind.i64.wrap (y.dst.val : Int)))))), (38, .ct (.fr (aggT (pr (x.pr) (y.pr))))), (43, .ct (.fr (aggT (pr (x.fl) (y.fl))))), (48, .ct (.fr (aggT (pr (x.tt) (y.tt))))), (67, .ct (.fr (aggT (pr (x.bk) (y.bk))))), (76, .ct (.fr (aggT (pr (IntKind.i64.wrap (x.fr.val : Int)) (IntKind.i64.wrap (y.fr.val : Int)))))), (83, .ct (.fr (aggT (pr (x.ki) (y.ki))))), (90, .ct (.fr (aggT (pr (x.co) (y.co))))), (97, .ct (.fr (aggT (pr (x.le) (y.le))))), (104, .ct (.fr (aggT (pr (x.id) (y.id))))), (50, .ct (boolC x.an)), (53, .ct (boolC y.an)), (57, .ct (boolC x.db)), (60, .ct (boolC y.db)), (106, .ct (intC 0))] ⟨rfl, rfl, rfl, rfl, rfl, rfl, rfl, rfl, rfl, rfl, rfl, rfl, rfl, rfl, rfl, rfl, rfl, rfl, rfl, rfl, rfl, trivial⟩ ?_
  refine QW gobit (bit_ok x.an) rfl rfl rfl rfl ?_
  refine QW gobit (bit_ok y.an) rfl rfl rfl rfl ?_
  refine Xo (n := 1) (cs := pr (b01 x.an) (b01 y.an)) rfl (by with_reducible exact Zm) (.one rfl rfl rfl rfl (.one rfl rfl rfl rfl .nil)) rfl ?_
  refine QW gobit (bit_ok x.db) rfl rfl rfl rfl ?_
  refine QW gobit (bit_ok y.db) rfl rfl rfl rfl ?_
  refine Xo (n := 1) (cs := pr (b01 x.db) (b01 y.db)) rfl (by with_reducible exact Zm) (.one rfl rfl rfl rfl (.one rfl rfl rfl rfl .nil)) rfl ?_
  refine Zn (n := 2) (prs (rsO6 x) (rsO6 y)) rfl (by with_reducible exact aPairs16) rfl ⟨rfl, rfl, rfl, rfl, rfl, rfl, rfl, rfl, rfl, rfl, rfl, rfl, rfl, rfl, rfl, rfl, rfl, rfl, rfl, rfl, rfl, rfl, rfl, rfl, rfl, rfl, rfl, rfl, rfl, rfl, rfl, rfl, rfl, rfl, rfl, rfl, rfl, rfl, rfl, rfl, rfl, rfl, rfl, rfl, rfl, rfl, rfl, rfl, trivial⟩ rfl ?_
  refine Qj (hK _ _ ?_)
  clear hK K
  have hlx : (rsO6 x).length = 16 := rfl
  have hly : (rsO6 y).length = 16 := rfl
  generalize rsO6 x = xs at hlx hR
  generalize rsO6 y = ys at hly hR
  generalize cmpR x y = R at hR ⊢
  (refine Qz (Q4 ?_))
  refine Xz (α := Nat) (fun j => j ≤ 16 ∧ cmpL (xs.drop j ++ [x.qu]) (ys.drop j ++ [y.qu]) = R)
    (fun j => [(2, .own 0), (3, .own 1), (105, .ct (.fr (aggT (prs xs ys).flatten))), (106, .ct (intC j))]) (fun _ => [(1, .box 35 (rsCs y)), (0, .box 35 (rsCs x))]) (fun j => 16 - j) 0 ⟨Nat.zero_le _, hR.symm⟩ (by exact Qu rfl ⟨rfl, rfl, rfl, rfl, trivial⟩) ?_
  rintro j ⟨hj, hc⟩
  dsimp only at hj hc ⊢
  (refine Qw (Qx fun K hK => ?_); refine Qk ilss rfl rfl rfl rfl ?_; refine Qj (hK _ _ (Qz (Qw ?_))); clear hK K)
  refine Q2 rfl (fun h => ?_) (fun h => ?_)
  · have h1 : j < xs.length := by omega
    have h2 : j < ys.length := by omega
    have hdr : cmpL (xs.drop j ++ [x.qu]) (ys.drop j ++ [y.qu]) = if cmp3 (xs.getD j 0) (ys.getD j 0) ≠ 0 then cmp3 (xs.getD j 0) (ys.getD j 0) else cmpL (xs.drop (j + 1) ++ [x.qu]) (ys.drop (j + 1) ++ [y.qu]) := by
      rw [List.drop_eq_getElem_cons h1, List.drop_eq_getElem_cons h2, List.getD_eq_getElem?_getD, List.getElem?_eq_getElem h1, List.getD_eq_getElem?_getD, List.getElem?_eq_getElem h2]; rfl
    have hat := prs_at h1 h2
    generalize xs.getD j 0 = p at hdr hat
    generalize ys.getD j 0 = q at hdr hat
    (refine Q1 (Qz (Qw (Q4 (Qw (Qx fun K hK => ?_))))))
    refine Ops.idxV (n := 2) rfl rfl rfl (by with_reducible exact aPairs16) (by with_reducible exact uPair) rfl (prs_len xs ys) (by omega) (by omega) (by rw [Int.toNat_natCast]; exact hat) rfl ?_
    refine Qh 2 rfl rfl (by with_reducible exact zvPair) rfl rfl rfl ?_
    refine Qe 2 rfl rfl rfl rfl rfl (by with_reducible exact szPair) rfl rfl ?_
    (refine Qj (hK _ _ (Qz (Qw ?_))); clear hK K; refine Qx (fun K hK => ?_))
    refine Z7 (n := 1) rfl rfl rfl rfl (by with_reducible exact Zm) (by decide) (by decide) rfl ?_
    (refine QJ rfl rfl rfl rfl rfl (by with_reducible first | exact lInt | exact Q9 | exact Q6 | exact lRess) rfl ?_)
    refine Z7 (n := 1) rfl rfl rfl rfl (by with_reducible exact Zm) (by decide) (by decide) rfl ?_
    (refine QJ rfl rfl rfl rfl rfl (by with_reducible first | exact lInt | exact Q9 | exact Q6 | exact lRess) rfl ?_; refine Qk ineq rfl rfl rfl rfl ?_; refine Qj (hK _ _ (Qz ?_)); clear hK K)
    refine Q2 rfl (fun h3 => ?_) (fun h3 => ?_)
    · have hne : cmp3 p q ≠ 0 := by rw [Yj]; split <;> (try split) <;> omega
      (refine Qw (Qx fun K hK => ?_))
      refine Z7 (n := 1) rfl rfl rfl rfl (by with_reducible exact Zm) (by decide) (by decide) rfl ?_
      (refine QJ rfl rfl rfl rfl rfl (by with_reducible first | exact lInt | exact Q9 | exact Q6 | exact lRess) rfl ?_)
      refine Z7 (n := 1) rfl rfl rfl rfl (by with_reducible exact Zm) (by decide) (by decide) rfl ?_
      (refine QJ rfl rfl rfl rfl rfl (by with_reducible first | exact lInt | exact Q9 | exact Q6 | exact lRess) rfl ?_)
      refine QW gorless (rless_ok p q) rfl rfl rfl rfl ?_
      (refine Qv rfl rfl rfl ?_; refine Qj (hK _ _ (Qz (Q0 (Q8 (QY (QY (Q8 (QY ?_)))))))); clear hK K)
      refine QU [_] rfl (QQ rfl QX) (by rw [← hc, hdr, if_pos hne]; rfl) rfl
    · have he : cmp3 p q = 0 := by rw [Classical.not_not.1 h3]; exact Yj q q |>.trans (by rw [if_neg (Int.lt_irrefl _), if_neg (Int.lt_irrefl _)])
      (refine Q1 (Qz (Qx fun K hK => ?_)); refine Qk (iadd (by omega) (by omega)) rfl rfl rfl rfl ?_; refine Qq rfl rfl rfl ?_; refine Qj (hK _ _ (Q3 ?_)); clear hK K)
      rw [he] at hdr
      refine Qm 2 ?_
      refine Q7 (j + 1) (by omega) ⟨by omega, by rw [← hc, hdr]; rfl⟩ (by exact Qu rfl ⟨rfl, rfl, rfl, by simp only [Int.natCast_add]; rfl, trivial⟩)
  · have hj' : j = 16 := by omega
    rw [hj', List.drop_of_length_le (by omega), List.drop_of_length_le (by omega)] at hc
    have he : cmpL ([] ++ [x.qu]) ([] ++ [y.qu]) = cmp3 x.qu y.qu := by
      show (if cmp3 x.qu y.qu ≠ 0 then cmp3 x.qu y.qu else 0) = _
      split
      · rfl
      · rename_i h5; exact (Classical.not_not.1 h5).symm
    (refine Qn (Qz (Qw (Qx fun K hK => ?_))); refine QV rfl rfl rfl (by with_reducible first | exact fS0 | exact fS1 | exact fS2 | exact fS3 | exact fS4 | exact fS5 | exact fS6 | exact fS7 | exact fS8 | exact fS9 | exact fS10 | exact fS11 | exact fN0 | exact fN1 | exact fN2 | exact fN3 | exact fN4 | exact fN5) rfl ?_; refine X2 rfl rfl (by with_reducible first | exact fN0 | exact fN1 | exact fN2 | exact fN3 | exact fN4 | exact fN5) rfl ?_; refine QJ rfl rfl rfl rfl rfl (by with_reducible first | exact lInt | exact Q9 | exact Q6 | exact lRess) rfl ?_; refine QV rfl rfl rfl (by with_reducible first | exact fS0 | exact fS1 | exact fS2 | exact fS3 | exact fS4 | exact fS5 | exact fS6 | exact fS7 | exact fS8 | exact fS9 | exact fS10 | exact fS11 | exact fN0 | exact fN1 | exact fN2 | exact fN3 | exact fN4 | exact fN5) rfl ?_; refine X2 rfl rfl (by with_reducible first | exact fN0 | exact fN1 | exact fN2 | exact fN3 | exact fN4 | exact fN5) rfl ?_; refine QJ rfl rfl rfl rfl rfl (by with_reducible first | exact lInt | exact Q9 | exact Q6 | exact lRess) rfl ?_)
    refine QW gorless (rless_ok x.qu y.qu) rfl rfl rfl rfl ?_
    (refine Qv rfl rfl rfl ?_; refine Qj (hK _ _ (Qz (Q0 ?_))); clear hK K)
    refine QU [_] rfl (QQ rfl QX) (by rw [← hc, he]; rfl) rfl
end Go.Proofs.YtlkdkbdgnjcopaaGreat
namespace Go.Limbs
variable {α : Type} [DecidableEq α]
def ddF : α → List α → List α
  | _, [] => []
  | a, b :: l => if b = a then ddF a l else b :: ddF b l
def dd : List α → List α
  | [] => []
  | a :: l => a :: ddF a l
theorem ddF_len : ∀ (a : α) (l : List α), (ddF a l).length ≤ l.length
  | _, [] => Nat.le_refl _
  | a, b :: l => by
    unfold ddF
    split
    · exact Nat.le_succ_of_le (ddF_len a l)
    · exact Nat.succ_le_succ (ddF_len b l)
theorem dd_len (l : List α) : (dd l).length ≤ l.length := by
  cases l with
  | nil => exact Nat.le_refl _
  | cons a l => exact Nat.succ_le_succ (ddF_len a l)
theorem ddF_snoc : ∀ (a : α) (l : List α) (b : α), ddF a (l ++ [b]) = if b = (l.getLast?.getD a) then ddF a l else ddF a l ++ [b]
  | a, [], b => by
    by_cases h : b = a <;> simp [ddF, h]
  | a, c :: l, b => by
    have h1 : (c :: l).getLast?.getD a = l.getLast?.getD c := by
      cases l with
      | nil => rfl
      | cons d l =>
        rw [List.getLast?_cons_cons, List.getLast?_cons]; rfl
    rw [h1]
    simp only [List.cons_append, ddF]
    by_cases h : c = a
    · subst h
      rw [if_pos rfl, if_pos rfl, ddF_snoc c l b]
    · rw [if_neg h, if_neg h, ddF_snoc c l b]
      split <;> rfl
theorem dd_snoc {l : List α} {a b : α} (h : l.getLast? = some a) : dd (l ++ [b]) = if b = a then dd l else dd l ++ [b] := by
  cases l with
  | nil => cases h
  | cons c l =>
    have h1 : l.getLast?.getD c = a := by
      cases l with
      | nil => simpa using h
      | cons d l =>
        rw [List.getLast?_cons_cons] at h
        rw [h]; rfl
    show c :: ddF c (l ++ [b]) = _
    rw [ddF_snoc, h1]
    split <;> rfl
omit [DecidableEq α] in
theorem take_last {l : List α} {z : α} {p : Nat} (h0 : 0 < p) (h : p ≤ l.length) : (l.take p).getLast? = some (l.getD (p - 1) z) := by
  rw [List.getLast?_eq_getElem?, List.length_take, Nat.min_eq_left h, List.getElem?_take, if_pos (by omega), List.getElem?_eq_getElem (by omega), List.getD_eq_getElem?_getD, List.getElem?_eq_getElem (by omega)]; rfl
theorem dd_step {l : List α} {z : α} {p : Nat} (h0 : 0 < p) (h : p < l.length) : dd (l.take (p + 1)) = if l.getD p z = l.getD (p - 1) z then dd (l.take p) else dd (l.take p) ++ [l.getD p z] := by
  have e : l.take (p + 1) = l.take p ++ [l.getD p z] := by
    rw [List.take_add_one, List.getElem?_eq_getElem h, List.getD_eq_getElem?_getD, List.getElem?_eq_getElem h]; rfl
  rw [e, dd_snoc (take_last (z := z) h0 (Nat.le_of_lt h))]
theorem dd_small {l : List α} (h : l.length < 2) : dd l = l := by
  match l, h with
  | [], _ => rfl
  | [a], _ => rfl
end Go.Limbs
namespace Go.Own
open Go.RowKit Go.Sort Go.Shelf Go.Lib Go.Proofs
theorem grown_of {w w' : World} (h : Below w.heap.size w w') : ∃ q os', w' = grow (w.drewN q) os' := by
  refine ⟨w'.drawn - w.drawn, w'.heap.extract w.heap.size w'.heap.size, ?_⟩
  obtain ⟨h1, h2, h3, h4, h5, h6⟩ := h
  obtain ⟨heap, tape, drawn, os, output⟩ := w
  obtain ⟨heap', tape', drawn', os', output'⟩ := w'
  dsimp only at h1 h2 h3 h4 h5 h6
  subst h1 h2 h3
  unfold grow World.drewN
  dsimp only
  congr 1
  · apply Array.ext_getElem?
    intro k
    rcases Nat.lt_or_ge k heap.size with hk | hk
    · rw [h5 k hk, Array.getElem?_append_left hk]
    · rw [Array.getElem?_append_right hk, Array.getElem?_extract]
      split
      · congr 1; omega
      · rw [Array.getElem?_eq_none (by omega)]
  · omega
section
variable {α : Type} [Inhabited α] {P : Program} {enc : α → List Value} {k : Nat} {cf : α → α → Int} {g : Nat}
abbrev encC (enc : α → List Value) (x : α) : List CT := (enc x).map CT.ex
abbrev flatC (enc : α → List Value) (l : List α) : List CT := (l.map (encC enc)).flatten
theorem cells_ex' (S : BSet) (w : World) : ∀ vs : List Value, cells S w (vs.map CT.ex) vs
  | [] => trivial
  | v :: vs => ⟨rfl, cells_ex' S w vs⟩
theorem cmpLays_of (hc : ∀ x y, Ok P g [.fr (aggT (encC enc x)), .fr (aggT (encC enc y))] (.ex (.int .i64 (cf x y)))) (blk off size : Nat) (w : World) : CmpLays P g #[] enc k cf blk off size w := fun m os dk _ x y => by
  refine (hc x y (fun _ => True) _ [.agg (enc x).toArray, .agg (enc y).toArray] (fun _ _ => trivial) ⟨⟨_, rfl, cells_ex' _ _ _⟩, ⟨_, rfl, cells_ex' _ _ _⟩, trivial⟩).mono ?_
  rintro e w' ⟨v, rfl, hv, hb⟩
  have hv : v = .int .i64 (cf x y) := hv
  subst hv
  exact ⟨rfl, grown_of hb⟩
theorem ex_cells {S : BSet} {w : World} : ∀ {vs us : List Value}, cells S w (vs.map CT.ex) us → us = vs
  | [], [], _ => rfl
  | [], _ :: _, h => h.elim
  | _ :: _, [], h => h.elim
  | v :: vs, u :: us, h => by
    have h1 : u = v := h.1
    rw [h1, ex_cells h.2]
omit [Inhabited α] in
theorem flatC_eq (enc : α → List Value) (l : List α) : flatC enc l = ((l.map enc).flatten).map CT.ex := by
  unfold flatC
  rw [List.map_flatten, List.map_map]; rfl
omit [Inhabited α] in
theorem flat_len (hk : ∀ x, (enc x).length = k) (l : List α) : (l.map enc).flatten.length = l.length * k := by
  induction l with
  | nil => simp
  | cons a l ih => rw [List.map_cons, List.flatten_cons, List.length_append, hk, ih, List.length_cons, Nat.succ_mul, Nat.add_comm]
theorem flat_get (hk : ∀ x, (enc x).length = k) : ∀ (l : List α) (i o : Nat), i < l.length → o < k → (l.map enc).flatten[i * k + o]? = (enc (l.getD i default))[o]?
  | [], i, o, h, _ => by simp at h
  | a :: l, 0, o, _, ho => by
    rw [List.map_cons, List.flatten_cons, Nat.zero_mul, Nat.zero_add, List.getElem?_append_left (by rw [hk]; exact ho)]; rfl
  | a :: l, i + 1, o, h, ho => by
    rw [List.map_cons, List.flatten_cons, List.getElem?_append_right (by rw [hk, Nat.succ_mul]; omega), hk]
    rw [show (i + 1) * k + o - k = i * k + o by rw [Nat.succ_mul]; omega, flat_get hk l i o (by simpa using h) ho]; rfl
theorem flatK_list (hk : ∀ x, (enc x).length = k) (k0 : 0 < k) (l : List α) : (flatK enc k l.toArray).toList = (l.map enc).flatten := by
  apply List.ext_getElem?
  intro t
  rcases Nat.lt_or_ge t (l.length * k) with h | h
  · have h1 : t < (flatK enc k l.toArray).size := by rw [size_flatK]; simpa using h
    have h2 := get_flatK enc k l.toArray t (by simpa using h)
    have hd : t / k < l.length := Nat.div_lt_of_lt_mul (by rw [Nat.mul_comm]; exact h)
    have hm : t % k < k := Nat.mod_lt _ k0
    have e : t = t / k * k + t % k := by rw [Nat.mul_comm]; exact (Nat.div_add_mod t k).symm
    rw [Array.getElem?_toList, Array.getElem?_eq_getElem h1]
    rw [getElem!_pos _ t h1] at h2
    rw [h2]
    conv => rhs; rw [e]
    rw [flat_get hk l _ _ hd hm]
    have e3 : l.toArray[t / k]! = l.getD (t / k) default := by
      rw [getElem!_pos _ _ (by simpa using hd), List.getElem_toArray, List.getD_eq_getElem?_getD, List.getElem?_eq_getElem hd]; rfl
    rw [e3]
    have hl : t % k < (enc (l.getD (t / k) default)).length := by rw [hk]; exact hm
    rw [getElem!_pos (enc (l.getD (t / k) default)) (t % k) hl, List.getElem?_eq_getElem hl]
  · rw [List.getElem?_eq_none (show (flatK enc k l.toArray).toList.length ≤ t by rw [Array.length_toList, size_flatK]; simpa using h), List.getElem?_eq_none (show (l.map enc).flatten.length ≤ t by rw [flat_len hk]; exact h)]
end
section
variable {α : Type} [Inhabited α] {P : Program} {ρ : Ren} {enc : α → List Value} {k : Nat} {cf : α → α → Int} {g : Nat}
set_option maxHeartbeats 1000000 in
theorem sortFunc_L (L : SlLaysF0.n6 P ρ) (k0 : 0 < k) (aE : ∀ w, (isAgg (ρ.t 24)).run P w = .ok true w) (zE : ∀ w, (Go.sizeOf (ρ.t 24)).run P w = .ok k w) (hk : ∀ x, (enc x).length = k) (h1 : ∀ x, ∀ v ∈ enc x, v.oneCell' = true)
    (hO : SWO (ltOf cf)) (hT : ∀ x y, (ltOf cf) x y = false → (ltOf cf) y x = false → x = y) (eg : ∀ args w, (callFunc g args).run P w = .ok (.enter g args) w)
    (hc : ∀ x y, Ok P g [.fr (aggT (encC enc x)), .fr (aggT (encC enc y))] (.ex (.int .i64 (cf x y)))) (el : TypeId) (l : List α) (hl : l.length < 4611686018427387904) :
    OkL P (ρ.f 6) el k (flatC enc l) [.ex (.func (.func g) #[] #[])] (.fr (tupT [])) (flatC enc (l.mergeSort fun x y => !(ltOf cf) y x)) := by
  intro S w h vs hS hgS hrow hA
  obtain ⟨n, us, how, hcs⟩ := hrow
  rw [flatC_eq] at hcs
  obtain rfl := ex_cells hcs
  obtain rfl : vs = [.func (.func g) #[] #[]] := by
    cases vs with
    | nil => exact hA.elim
    | cons v vs =>
      cases vs with
      | nil =>
        have : v = .func (.func g) #[] #[] := hA.1
        rw [this]
      | cons u us => exact hA.2.elim
  have hlen := how.1
  rw [flat_len hk] at hlen
  have hn : l.length = n := Nat.eq_of_mul_eq_mul_right k0 hlen
  rcases how.2 with ⟨rfl, h0⟩ | ⟨gb, cap, cur, rfl, _, hgb, hnc, hcm, hcz, htk⟩
  · have e : l = [] := List.length_eq_zero_iff.1 (by omega)
    subst e
    refine (AnyF.slices_SortFunc_none L none 0 _ w).mono ?_
    rintro e w' ⟨rfl, rfl⟩
    exact ⟨_, rfl, ⟨[], rfl, trivial⟩, ⟨n, [], ⟨by simpa using hlen, .inl ⟨rfl, h0⟩⟩, by rw [List.mergeSort_nil]; trivial⟩, ⟨rfl, rfl, rfl, Nat.le_refl _, fun _ _ _ => rfl, Nat.le_refl _⟩⟩
  · subst hn
    have hH : HoldsK enc k w gb 0 l.toArray := by
      intro j hj
      have hj' : j < l.length * k := by simpa using hj
      have hc2 : cur[j]? = some (flatK enc k l.toArray)[j]! := by
        have h3 : (flatK enc k l.toArray).toList[j]? = some (flatK enc k l.toArray)[j]! := by
          rw [Array.getElem?_toList, Array.getElem?_eq_getElem hj, getElem!_pos _ j hj]
        rw [flatK_list hk k0, ← htk, List.getElem?_take, if_pos hj'] at h3
        rw [← Array.getElem?_toList]; exact h3
      constructor
      · show (match w.heap[gb]? with | some (.cells c _ _) => if (none : Option _).isSome then none else c[0 + j]? | _ => none) = _
        rw [hgb, Nat.zero_add]
        exact hc2
      · show (match w.heap[gb]? with | some (.cells _ _ (lo, hi)) => decide (lo ≤ 0 + j) && decide (0 + j < hi) | _ => false) = _
        rw [hgb]
        simp
    have hsz : gb < w.heap.size := ZZ hgb
    have hcon := AnyQ.slices_SortFunc_total L k aE zE enc hk h1 cf hO g #[] gb 0 cap l.toArray w eg (cmpLays_of hc gb 0 _ w) hH hsz (by simpa using hl) hT
    refine hcon.mono ?_
    rintro e w' ⟨rfl, m, os, rfl⟩
    generalize hd : (l.toArray.toList.mergeSort fun x y => !(ltOf cf) y x) = d
    have hd2 : (l.mergeSort fun x y => !(ltOf cf) y x) = d := by rw [← hd]
    have hdl : d.length = l.length := by rw [← hd2, List.length_mergeSort]
    have hFs : (flatK enc k d.toArray).size = l.length * k := by rw [size_flatK]; simp [hdl]
    have hheap : (sortWorldK enc k w gb 0 m d.toArray os).heap = (w.heap.modify gb (onCells (putCells id 0 (flatK enc k d.toArray)))) ++ os := rfl
    have hms : (w.heap.modify gb (onCells (putCells id 0 (flatK enc k d.toArray)))).size = w.heap.size := Array.size_modify ..
    refine ⟨_, rfl, ⟨[], rfl, trivial⟩, ⟨l.length, (d.map enc).flatten, ⟨by rw [flat_len hk, hdl], .inr ⟨gb, cap, putCells id 0 (flatK enc k d.toArray) cur, rfl, Nat.zero_le _, ?_, hnc, hcm, ?_, ?_⟩⟩, ?_⟩, ⟨rfl, rfl, rfl, ?_, fun q hq hne => ?_, ?_⟩⟩
    · rw [hheap, Array.getElem?_append_left (by rw [hms]; exact hsz), Array.getElem?_modify, if_pos rfl, hgb]; rfl
    · unfold putCells; rw [Array.size_mapIdx]; exact hcz
    · have hle : l.length * k ≤ cur.size := by rw [hcz]; exact Nat.mul_le_mul_right _ hnc
      apply List.ext_getElem?
      intro t
      rw [List.getElem?_take]
      rcases Nat.lt_or_ge t (l.length * k) with ht | ht
      · rw [if_pos ht, Array.getElem?_toList, ← flatK_list hk k0, Array.getElem?_toList]
        unfold putCells
        rw [Array.getElem?_mapIdx, Array.getElem?_eq_getElem (show t < cur.size by omega), Array.getElem?_eq_getElem (show t < (flatK enc k d.toArray).size by omega)]
        simp only [Option.map_some, id]
        rw [if_pos ⟨Nat.zero_le _, by omega⟩, Nat.sub_zero, getElem!_pos _ t (by omega)]
      · rw [if_neg (by omega), List.getElem?_eq_none (by rw [flat_len hk, hdl]; exact ht)]
    · rw [flatC_eq]; exact cells_ex' _ _ _
    · show w.heap.size ≤ (sortWorldK enc k w gb 0 m d.toArray os).heap.size
      rw [hheap, Array.size_append, hms]; omega
    · have hq : q < w.heap.size := hq
      have hne : gb ≠ q := fun e => hne (by rw [← e]; rfl)
      rw [hheap, Array.getElem?_append_left (by rw [hms]; exact hq), Array.getElem?_modify, if_neg hne]
    · show w.drawn ≤ w.drawn + m
      omega
end
end Go.Own
namespace Go.Limbs
open Go.Sort Go.Shelf Go.Proofs
variable {α : Type} {cf : α → α → Int}
structure Ord (cf : α → α → Int) : Prop where
  anti : ∀ a b, cf b a = - cf a b
  eq0 : ∀ a b, cf a b = 0 → a = b
  trans : ∀ a b c, cf a b < 0 → cf b c < 0 → cf a c < 0
theorem Ord.self (O : Ord cf) (a : α) : cf a a = 0 := by have := O.anti a a; omega
theorem Ord.swo (O : Ord cf) : SWO (ltOf cf) := by
  have nt : ∀ x y z, cf x z < 0 → cf x y < 0 ∨ cf y z < 0 := fun x y z h => by
    rcases Int.lt_trichotomy (cf x y) 0 with h1 | h1 | h1
    · exact .inl h1
    · rw [O.eq0 x y h1] at h; exact .inr h
    · exact .inr (O.trans y x z (by rw [O.anti x y]; omega) h)
  refine ⟨fun x => ?_, fun x y z h1 h2 => ?_, fun x y z h1 h2 => ?_⟩
  · simp only [ltOf, O.self]; decide
  · simp only [ltOf, decide_eq_true_eq] at *
    exact O.trans x y z h1 h2
  · simp only [ltOf, decide_eq_false_iff_not] at *
    intro h
    rcases nt x y z h with h | h
    · exact h1 h
    · exact h2 h
theorem Ord.tot (O : Ord cf) : ∀ x y, (ltOf cf) x y = false → (ltOf cf) y x = false → x = y := fun x y h1 h2 => by
  simp only [ltOf, decide_eq_false_iff_not] at *
  rw [O.anti x y] at h2
  exact O.eq0 x y (by omega)
def Up (cf : α → α → Int) (l : List α) : Prop := l.Pairwise (fun a b => cf a b < 0)
theorem Up.ext (O : Ord cf) : ∀ {l m : List α}, Up cf l → Up cf m → (∀ x, x ∈ l ↔ x ∈ m) → l = m
  | [], [], _, _, _ => rfl
  | [], y :: m, _, _, h => by have := (h y).2 (List.mem_cons_self ..); cases this
  | x :: l, [], _, _, h => by have := (h x).1 (List.mem_cons_self ..); cases this
  | x :: l, y :: m, hl, hm, h => by
    have hl' := List.pairwise_cons.1 hl
    have hm' := List.pairwise_cons.1 hm
    have e : x = y := by
      rcases List.mem_cons.1 ((h x).1 (List.mem_cons_self ..)) with e | e
      · exact e
      · rcases List.mem_cons.1 ((h y).2 (List.mem_cons_self ..)) with e' | e'
        · exact e'.symm
        · have h1 := hm'.1 x e
          have h2 := hl'.1 y e'
          rw [O.anti y x] at h2
          omega
    subst e
    have nl : x ∉ l := fun hx => by have := hl'.1 x hx; rw [O.self] at this; omega
    have nm : x ∉ m := fun hx => by have := hm'.1 x hx; rw [O.self] at this; omega
    rw [Up.ext O hl'.2 hm'.2 (fun z => ⟨fun hz => by
      rcases List.mem_cons.1 ((h z).1 (List.mem_cons_of_mem _ hz)) with rfl | h1
      · exact absurd hz nl
      · exact h1, fun hz => by
      rcases List.mem_cons.1 ((h z).2 (List.mem_cons_of_mem _ hz)) with rfl | h1
      · exact absurd hz nm
      · exact h1⟩)]
section
variable [DecidableEq α]
theorem ddF_up (O : Ord cf) : ∀ (l : List α) (a : α), (a :: l).Pairwise (fun a b => cf a b ≤ 0) → Up cf (a :: ddF a l) ∧ ∀ x, x ∈ a :: ddF a l ↔ x ∈ a :: l
  | [], a, _ => ⟨List.pairwise_singleton _ _, fun x => Iff.rfl⟩
  | b :: l, a, h => by
    have h' := List.pairwise_cons.1 h
    unfold ddF
    by_cases e : b = a
    · subst e
      rw [if_pos rfl]
      obtain ⟨h1, h2⟩ := ddF_up O l b h'.2
      exact ⟨h1, fun x => by rw [h2 x]; simp⟩
    · rw [if_neg e]
      obtain ⟨h1, h2⟩ := ddF_up O l b h'.2
      refine ⟨List.pairwise_cons.2 ⟨fun x hx => ?_, h1⟩, fun x => by rw [List.mem_cons, h2 x, List.mem_cons (a := x) (b := a)]⟩
      have hb := h'.1 b (List.mem_cons_self ..)
      have hb2 : cf a b < 0 := by
        rcases Int.lt_or_eq_of_le hb with h3 | h3
        · exact h3
        · exact absurd (O.eq0 a b h3).symm e
      rcases List.mem_cons.1 hx with rfl | hx
      · exact hb2
      · exact O.trans a b x hb2 ((List.pairwise_cons.1 h1).1 x hx)
def sd (cf : α → α → Int) (l : List α) : List α := dd (l.mergeSort fun x y => !(ltOf cf) y x)
theorem Yw (O : Ord cf) (l : List α) : Up cf (sd cf l) ∧ ∀ x, x ∈ sd cf l ↔ x ∈ l := by
  have hp : (l.mergeSort fun x y => !(ltOf cf) y x).Pairwise (fun a b => cf a b ≤ 0) := by
    have h := List.pairwise_mergeSort (le := fun x y => !(ltOf cf) y x) (fun a b c h1 h2 => by
      simp only [ltOf, Bool.not_eq_true', decide_eq_false_iff_not] at *
      intro h
      rcases Int.lt_trichotomy (cf c b) 0 with h3 | h3 | h3
      · exact h2 h3
      · rw [O.eq0 c b h3] at h; exact h1 h
      · exact h1 (O.trans b c a (by rw [O.anti c b]; omega) h)) (fun a b => by
      simp only [ltOf, Bool.or_eq_true, Bool.not_eq_true', decide_eq_false_iff_not]
      rw [O.anti a b]; omega) l
    refine h.imp (fun {a b} hab => ?_)
    simp only [ltOf, Bool.not_eq_true', decide_eq_false_iff_not] at hab
    rw [O.anti a b] at hab; omega
  have hm : ∀ x, x ∈ (l.mergeSort fun x y => !(ltOf cf) y x) ↔ x ∈ l := fun x => List.mem_mergeSort
  unfold sd
  generalize (l.mergeSort fun x y => !(ltOf cf) y x) = m at *
  cases m with
  | nil => exact ⟨List.Pairwise.nil, hm⟩
  | cons a m =>
    obtain ⟨h1, h2⟩ := ddF_up O m a hp
    exact ⟨h1, fun x => (h2 x).trans (hm x)⟩
theorem sd_len (cf : α → α → Int) (l : List α) : (sd cf l).length ≤ l.length := Nat.le_trans (dd_len _) (Nat.le_of_eq (List.length_mergeSort _))
theorem sd_eq (O : Ord cf) {l : List α} (h : Up cf l) : sd cf l = l := Up.ext O (Yw O l).1 h (Yw O l).2
end
def posF (cf : α → α → Int) (z : α) (l : List α) (c : α) : Nat → Nat
  | 0 => 0
  | k + 1 => if 0 < cf (l.getD k z) c then posF cf z l c k else k + 1
theorem posF_le (cf : α → α → Int) (z : α) (l : List α) (c : α) : ∀ k, posF cf z l c k ≤ k
  | 0 => Nat.le_refl _
  | k + 1 => by simp only [posF]; split
                · exact Nat.le_succ_of_le (posF_le cf z l c k)
                · exact Nat.le_refl _
theorem posF_step (cf : α → α → Int) (z : α) (l : List α) (c : α) {k : Nat} (h : 0 < k) : posF cf z l c k = if 0 < cf (l.getD (k - 1) z) c then posF cf z l c (k - 1) else k := by
  obtain ⟨q, rfl⟩ : ∃ q, k = q + 1 := ⟨k - 1, by omega⟩
  rfl
def putF (cf : α → α → Int) (z : α) (l : List α) (c : α) : List α :=
  if posF cf z l c l.length ≠ 0 ∧ cf (l.getD (posF cf z l c l.length - 1) z) c = 0 then l else l.take (posF cf z l c l.length) ++ c :: l.drop (posF cf z l c l.length)
theorem posF_spec (z : α) (l : List α) (c : α) : ∀ k, k ≤ l.length → (∀ x ∈ (l.take k).drop (posF cf z l c k), 0 < cf x c) ∧ (posF cf z l c k ≠ 0 → ¬ 0 < cf (l.getD (posF cf z l c k - 1) z) c)
  | 0, _ => ⟨by simp [posF], fun h => absurd rfl h⟩
  | k + 1, hk => by
    obtain ⟨h1, h2⟩ := posF_spec z l c k (by omega)
    have hle := posF_le cf z l c k
    have ht : l.take (k + 1) = l.take k ++ [l.getD k z] := by
      rw [List.take_add_one, List.getElem?_eq_getElem (by omega), List.getD_eq_getElem?_getD, List.getElem?_eq_getElem (by omega)]; rfl
    simp only [posF]
    by_cases h : 0 < cf (l.getD k z) c
    · rw [if_pos h]
      refine ⟨fun x hx => ?_, h2⟩
      rw [ht, List.drop_append_of_le_length (by simp; omega)] at hx
      rcases List.mem_append.1 hx with hx | hx
      · exact h1 x hx
      · rw [List.mem_singleton.1 hx]; exact h
    · rw [if_neg h]
      refine ⟨fun x hx => ?_, fun _ => h⟩
      rw [List.drop_of_length_le (by simp; omega)] at hx
      cases hx
theorem putF_up (O : Ord cf) {z : α} {l : List α} {c : α} (ha : Up cf l) : Up cf (putF cf z l c) := by
  obtain ⟨h1, h2⟩ := posF_spec (cf := cf) z l c l.length (Nat.le_refl _)
  have hle := posF_le cf z l c l.length
  rw [List.take_length] at h1
  unfold putF
  generalize posF cf z l c l.length = k at *
  split
  · exact ha
  · rename_i hne
    have hs : Up cf (l.take k ++ l.drop k) := by rw [List.take_append_drop]; exact ha
    obtain ⟨hs1, hs2, hs3⟩ := List.pairwise_append.1 hs
    have hd : ∀ y ∈ l.drop k, cf c y < 0 := fun y hy => by
      have := h1 y hy
      rw [O.anti y c]; omega
    have ht : ∀ x ∈ l.take k, cf x c < 0 := fun x hx => by
      have hk0 : k ≠ 0 := fun h => by subst h; simp at hx
      have ht : l.take k = l.take (k - 1) ++ [l.getD (k - 1) z] := by
        obtain ⟨q, rfl⟩ : ∃ q, k = q + 1 := ⟨k - 1, by omega⟩
        rw [Nat.add_sub_cancel, List.take_add_one, List.getElem?_eq_getElem (by omega), List.getD_eq_getElem?_getD, List.getElem?_eq_getElem (by omega)]; rfl
      have hlast : cf (l.getD (k - 1) z) c < 0 := by
        have h3 := h2 hk0
        have h4 : cf (l.getD (k - 1) z) c ≠ 0 := fun h => hne ⟨hk0, h⟩
        omega
      rw [ht] at hx hs1
      rcases List.mem_append.1 hx with hx | hx
      · exact O.trans _ _ _ ((List.pairwise_append.1 hs1).2.2 x hx _ (List.mem_singleton_self _)) hlast
      · rw [List.mem_singleton.1 hx]; exact hlast
    refine List.pairwise_append.2 ⟨hs1, List.pairwise_cons.2 ⟨hd, hs2⟩, fun x hx y hy => ?_⟩
    rcases List.mem_cons.1 hy with rfl | hy
    · exact ht x hx
    · exact O.trans _ _ _ (ht x hx) (hd y hy)
theorem putF_mem (O : Ord cf) {z : α} {l : List α} {c x : α} : x ∈ putF cf z l c ↔ x ∈ l ∨ x = c := by
  have hle := posF_le cf z l c l.length
  unfold putF
  generalize posF cf z l c l.length = k at *
  split
  · rename_i h
    have hm : c ∈ l := by
      rw [← O.eq0 _ _ h.2, List.getD_eq_getElem?_getD, List.getElem?_eq_getElem (by omega)]
      exact List.getElem_mem _
    exact ⟨.inl, fun h => h.elim id (fun h => h ▸ hm)⟩
  · conv => rhs; rw [← List.take_append_drop k l]
    simp only [List.mem_append, List.mem_cons]
    constructor
    · rintro (h | h | h)
      · exact .inl (.inl h)
      · exact .inr h
      · exact .inl (.inr h)
    · rintro ((h | h) | h)
      · exact .inl h
      · exact .inr (.inr h)
      · exact .inr (.inl h)
def ordF (cf : α → α → Int) (z : α) (ok : α → Bool) : List α → List α → List α
  | [], out => out
  | c :: l, out => ordF cf z ok l (if ok c then putF cf z out c else out)
theorem ordF_spec (O : Ord cf) (z : α) (ok : α → Bool) : ∀ (l out : List α), Up cf out → Up cf (ordF cf z ok l out) ∧ ∀ x, x ∈ ordF cf z ok l out ↔ x ∈ out ∨ (x ∈ l ∧ ok x = true)
  | [], out, h => ⟨h, fun x => by simp [ordF]⟩
  | c :: l, out, h => by
    simp only [ordF]
    by_cases hc : ok c = true
    · rw [if_pos hc]
      obtain ⟨h1, h2⟩ := ordF_spec O z ok l (putF cf z out c) (putF_up O h)
      refine ⟨h1, fun x => ?_⟩
      rw [h2 x, putF_mem O]
      constructor
      · rintro ((h | rfl) | h)
        · exact .inl h
        · exact .inr ⟨List.mem_cons_self .., hc⟩
        · exact .inr ⟨List.mem_cons_of_mem _ h.1, h.2⟩
      · rintro (h | ⟨h, h3⟩)
        · exact .inl (.inl h)
        · rcases List.mem_cons.1 h with rfl | h
          · exact .inl (.inr rfl)
          · exact .inr ⟨h, h3⟩
    · rw [if_neg hc]
      obtain ⟨h1, h2⟩ := ordF_spec O z ok l out h
      refine ⟨h1, fun x => ?_⟩
      rw [h2 x]
      constructor
      · rintro (h | h)
        · exact .inl h
        · exact .inr ⟨List.mem_cons_of_mem _ h.1, h.2⟩
      · rintro (h | ⟨h, h3⟩)
        · exact .inl h
        · rcases List.mem_cons.1 h with rfl | h
          · exact absurd h3 hc
          · exact .inr ⟨h, h3⟩
end Go.Limbs
namespace Go.Proofs.YtlkdkbdgnjcopaaGreat
open Go.Own
attribute [local irreducible] St Ops Go.Own.Fin Ok OkB OkN OkT OkL OkF
theorem cmp3_anti (a b : Int) : cmp3 b a = - cmp3 a b := by unfold cmp3; split <;> split <;> (try split) <;> omega
theorem cmp3_zero {a b : Int} : cmp3 a b = 0 ↔ a = b := by unfold cmp3; split <;> (try split) <;> constructor <;> intro h <;> omega
theorem cmp3_lt {a b : Int} : cmp3 a b < 0 ↔ a < b := by unfold cmp3; split <;> (try split) <;> constructor <;> intro h <;> omega
theorem cmpL_anti : ∀ xs ys : List Int, cmpL ys xs = - cmpL xs ys
  | [], [] => rfl
  | [], _ :: _ => rfl
  | _ :: _, [] => rfl
  | x :: xs, y :: ys => by
    simp only [cmpL]
    rw [cmp3_anti x y, cmpL_anti xs ys]
    by_cases h : cmp3 x y = 0
    · simp [h]
    · rw [if_pos h, if_pos (by omega)]
theorem cmpL_eq : ∀ {xs ys : List Int}, xs.length = ys.length → cmpL xs ys = 0 → xs = ys
  | [], [], _, _ => rfl
  | x :: xs, y :: ys, hl, h => by
    simp only [cmpL] at h
    by_cases h0 : cmp3 x y = 0
    · rw [if_neg (by omega)] at h
      rw [cmp3_zero.1 h0, cmpL_eq (by simpa using hl) h]
    · rw [if_pos h0] at h; exact absurd h h0
  | [], _ :: _, hl, _ => by simp at hl
  | _ :: _, [], hl, _ => by simp at hl
theorem cmpL_trans : ∀ {xs ys zs : List Int}, xs.length = ys.length → ys.length = zs.length → cmpL xs ys < 0 → cmpL ys zs < 0 → cmpL xs zs < 0
  | x :: xs, y :: ys, z :: zs, h1, h2, ha, hb => by
    simp only [cmpL] at ha hb ⊢
    by_cases h3 : cmp3 x y = 0
    · have e := cmp3_zero.1 h3
      subst e
      rw [if_neg (by omega)] at ha
      by_cases h4 : cmp3 x z = 0
      · rw [if_neg (by omega)] at hb ⊢
        exact cmpL_trans (by simpa using h1) (by simpa using h2) ha hb
      · rw [if_pos h4] at hb ⊢; exact hb
    · rw [if_pos h3] at ha
      have l1 := cmp3_lt.1 ha
      by_cases h4 : cmp3 y z = 0
      · have e := cmp3_zero.1 h4
        subst e
        rw [if_pos h3]; exact ha
      · rw [if_pos h4] at hb
        have l2 := cmp3_lt.1 hb
        have l3 : cmp3 x z < 0 := cmp3_lt.2 (by omega)
        rw [if_pos (by omega)]; exact l3
  | [], [], _, _, _, ha, _ => by simp [cmpL] at ha
  | [], _ :: _, _, h1, _, _, _ => by simp at h1
  | _ :: _, [], _, h1, _, _, _ => by simp at h1
  | _ :: _, _ :: _, [], _, h2, _, _ => by simp at h2
end Go.Proofs.YtlkdkbdgnjcopaaGreat
namespace Go.Own
open Go.RowKit
theorem run_getMap {P : Program} {w : World} {r : Nat} {es : Array MapEntry} {clock : Nat} (h : w.heap[r]? = some (.map es clock)) : (getObj r).run P w = .ok (.map es clock) w := by simp [getObj, Sem.run, h]
theorem run_setMap {P : Program} {w : World} {r : Nat} {es : Array MapEntry} {clock : Nat} (o : Obj) (h : w.heap[r]? = some (.map es clock)) : (setObj r o).run P w = .ok () { w with heap := w.heap.setIfInBounds r o } := by simp [setObj, Sem.run, h]
structure KeyT (P : Program) (t : TypeId) {κ : Type} [DecidableEq κ] (enc : κ → Value) : Prop where
  now : ∀ (l : List MapEntry) (i : Nat) (a : κ) (D : TypeDesc), P.underlying t = some D → l ≠ [] → (∀ e ∈ l, ∃ b, e.key = enc b) → Instr.findNow D (enc a) l i = none
  und : ∃ D, P.underlying t = some D
  eq : ∀ (a b : κ) (w : World), (Op.equal t (enc a) (enc b)).run P w = .ok (decide (a = b)) w
  ck : ∀ (e : Bool) (a : κ) (w : World), (Instr.checkKey e 10000 t (enc a)).run P w = .ok () w
  sb : ∀ a : κ, Instr.sameBits 10000 (enc a) (enc a) = true
section
variable {κ β : Type} [DecidableEq κ]
def ins : List (κ × β) → κ → β → List (κ × β)
  | [], a, b => [(a, b)]
  | (k, v) :: l, a, b => if a = k then (a, b) :: l else (k, v) :: ins l a b
def look1 : List (κ × β) → κ → Option β
  | [], _ => none
  | (k, v) :: l, a => if a = k then some v else look1 l a
theorem Xr (l : List (κ × β)) (a : κ) (b : β) (c : κ) : look1 (ins l a b) c = if c = a then some b else look1 l c := by
  induction l with
  | nil => simp [ins, look1]
  | cons p l ih =>
    obtain ⟨k, v⟩ := p
    simp only [ins]
    by_cases h : a = k
    · subst h
      simp only [if_true, look1]
      by_cases h2 : c = a
      · simp [h2]
      · simp [h2]
    · rw [if_neg h]
      simp only [look1, ih]
      by_cases h2 : c = k
      · subst h2; simp [Ne.symm h]
      · simp [h2]
def idx1 : List (κ × β) → κ → Option Nat
  | [], _ => none
  | (k, _) :: l, a => if a = k then some 0 else (idx1 l a).map (· + 1)
theorem look1_idx (a : κ) : ∀ al : List (κ × β), look1 al a = (idx1 al a).bind fun j => (al[j]?).map (·.2)
  | [] => rfl
  | (k, v) :: l => by
    simp only [look1, idx1]
    by_cases h : a = k
    · simp [h]
    · rw [if_neg h, if_neg h, look1_idx a l]
      cases idx1 l a <;> simp
theorem ins_idx (a : κ) (b : β) : ∀ al : List (κ × β), ins al a b = match idx1 al a with | none => al ++ [(a, b)] | some j => al.set j (a, b)
  | [] => rfl
  | (k, v) :: l => by
    simp only [ins, idx1]
    by_cases h : a = k
    · simp [h]
    · rw [if_neg h, if_neg h, ins_idx a b l]
      cases idx1 l a <;> simp
theorem idx1_key (a : κ) : ∀ (al : List (κ × β)) (j : Nat), idx1 al a = some j → ∃ b, al[j]? = some (a, b)
  | [], _, h => by cases h
  | (k, v) :: l, j, h => by
    simp only [idx1] at h
    by_cases h1 : a = k
    · rw [if_pos h1] at h; injection h with h; subst h; exact ⟨v, by simp [h1]⟩
    · rw [if_neg h1] at h
      obtain ⟨q, hq, rfl⟩ := Option.map_eq_some_iff.1 h
      obtain ⟨b, hb⟩ := idx1_key a l q hq
      exact ⟨b, by simpa using hb⟩
def kvs (enc : κ → Value) (cv : β → CT) (al : List (κ × β)) : List (Value × CT) := al.map fun p => (enc p.1, cv p.2)
variable {P : Program} {kt : TypeId} {enc : κ → Value} {cv : β → CT}
theorem run_ask (h : KeyT P kt enc) (a : κ) (w : World) : ∀ (al : List (κ × β)) (es : List MapEntry) (i : Nat), es.map (·.key) = al.map (fun p => enc p.1) →
    (Instr.findAsking kt (enc a) es i).run P w = .ok ((idx1 al a).bind fun j => (es[j]?).map fun e => (i + j, e.val)) w
  | [], [], i, _ => rfl
  | [], _ :: _, _, h0 => by simp at h0
  | _ :: _, [], _, h0 => by simp at h0
  | (k, v) :: al, e :: es, i, h0 => by
    simp only [List.map_cons, List.cons.injEq] at h0
    obtain ⟨h1, h2⟩ := h0
    have he := h.eq a k w
    rw [← h1] at he
    have ih := run_ask h a w al es (i + 1) h2
    simp only [Instr.findAsking, Sem.run_bind, he, Result.andThen_ok, idx1]
    by_cases hak : a = k
    · simp [hak]
    · rw [if_neg hak]
      simp only [hak, decide_false, Bool.false_eq_true, if_false, ih]
      cases idx1 al a with
      | none => rfl
      | some j =>
        simp only [Option.map_some, Option.bind_some, List.getElem?_cons_succ]
        congr 2
        funext e
        congr 1
        omega
theorem run_find (h : KeyT P kt enc) (a : κ) (w : World) (al : List (κ × β)) (es : List MapEntry) (h0 : es.map (·.key) = al.map (fun p => enc p.1)) :
    (Instr.findKey kt (enc a) es).run P w = .ok ((idx1 al a).bind fun j => (es[j]?).map fun e => (j, e.val)) w := by
  obtain ⟨D, hD⟩ := h.und
  have g1 := run_ask h a w al es 0 h0
  simp only [Nat.zero_add] at g1
  cases es with
  | nil =>
    have : al = [] := by cases al with
      | nil => rfl
      | cons p l => simp at h0
    subst this
    simp [Instr.findKey, run_underlying hD, Instr.findNow, idx1]
  | cons e es =>
    have := h.now (e :: es) 0 a D hD (by simp) (fun e' he => by
      have hm : e'.key ∈ (e :: es).map (·.key) := List.mem_map_of_mem he
      rw [h0] at hm
      obtain ⟨p, _, hp⟩ := List.mem_map.1 hm
      exact ⟨p.1, hp.symm⟩)
    simp only [Instr.findKey, Sem.run_bind, run_underlying hD, Result.andThen_ok, this]
    exact g1
end
section
variable {X : Ctx} {L : AL} {B : BL} {ops : Array Oper} {K : Act → World → Prop} {r : Pl} {k : Kd}
  {x y z : Operand} {d : Nat} {t t2 t' : TypeId} {pos : String} {af : Array Edge} {g : Option (Nat × Bool)}
def KeyIs (X : Ctx) (L : AL) (B : BL) (y : Operand) (v : Value) : Prop := ∀ a ρ w, Is X L B a ρ w → a.eval y = v
theorem cells_exact {S : BSet} {w : World} : ∀ {us vs : List Value}, cells S w (us.map CT.ex) vs → vs = us
  | [], [], _ => rfl
  | u :: us, v :: vs, ⟨h1, h2⟩ => by
    have : v = u := h1
    rw [this, cells_exact h2]
  | [], _ :: _, h => h.elim
  | _ :: _, [], h => h.elim
theorem KeyIs.agg {us : List Value} (h : ev L y = some (.ct (.fr (aggT (us.map CT.ex))))) : KeyIs X L B y (.agg us.toArray) := fun a ρ w hI => by
  obtain ⟨vs, h1, h2⟩ := hI.ev h
  rw [h1, cells_exact h2]
theorem Fin.nameM (dd i : Nat) {kv : List (Value × CT)} (hd : look L dd = some (.own i)) (hi : bget B i = some (.mp kv)) (h : ∀ v : Value, v.oneCell' = true → Fin X ((dd, .ct (.ex v)) :: L) (bset B i (.mpx v kv)) K) : Fin X L B K := fun a ρ w hI => by
  have h1 : a.tmps.getD dd undef = ρ i := hI.slot dd _ hd
  have h2 := (hI.ent i _ hi).1
  exact h (ρ i) (by obtain ⟨q, hq, _⟩ := h2; rw [hq]; rfl) a ρ w ((hI.retype (e' := .mpx (ρ i) kv) hi ⟨rfl, h2⟩ rfl).slotx (s := .ct (.ex (ρ i))) h1)
theorem Ops.mkMap (i : Nat) (hk : k.mk = true) (hg : gd ops L g = some true) (hN : noN i L = true) (hB : bget B i = none) (hn : Nat.blt d X.n = true)
    (h : ∀ v : Value, v.oneCell' = true → Ops X ops r ((d, .ct (.ex v)) :: (d, .own i) :: L) ((i, .mpx v []) :: B) K) : Ops X ops (.cons ⟨some d, .makeMap t none, t', pos, af, g⟩ k r) L B K :=
  Ops.mkE (e := .mp []) hk hg rfl hn hN hB (fun a ρ w hI => by
    refine ⟨.map (some w.heap.size), w.alloc (.map #[] 0), ?_, Zp _ _, fun q hq => ?_, fun S' hk => ⟨w.heap.size, rfl, #[], 0, heap_alloc_new w _, rfl, trivial⟩⟩
    · show (do pure (Next.value (← Instr.makeMap t none)) : Sem Next).run X.P w = _
      refine X9 ?_
      simp [Instr.makeMap]
    · injection hq with hq; subst hq; exact Nat.le_refl _)
    (Fin.nameM d i (XU ..) (Xj ..) fun v hv => by
      have hbs : bset ((i, Ent.mp []) :: B) i (.mpx v []) = (i, .mpx v []) :: B := by simp only [bset, Nat.beq_refl]
      rw [hbs]; exact h v hv)
variable {κ β : Type} [DecidableEq κ] {kt et mt : TypeId} {enc : κ → Value} {cv : β → CT}
omit [DecidableEq κ] in
theorem kvs_keys {al : List (κ × β)} {es : Array MapEntry} (h : es.toList.map (·.key) = (kvs enc cv al).map (·.1)) : es.toList.map (·.key) = al.map (fun p => enc p.1) := by rw [h]; simp [kvs]
theorem run_lookup {P : Program} {S : BSet} {w : World} {gb : Nat} {al : List (κ × β)} {zv : Value} (z0 : β) (ok : Bool) (a : κ) (hm : P.underlying mt = some (.map kt et)) (hz : ∀ w, (zeroValue et).run P w = .ok zv w) (hz0 : (cv z0).p S w zv) (hK : KeyT P kt enc)
    (hM : mapAt S w gb (kvs enc cv al)) : ∃ v, (cv ((look1 al a).getD z0)).p S w v ∧ ∀ w' : World, w'.heap[gb]? = w.heap[gb]? → (Instr.lookup mt (.map (some gb)) (enc a) ok).run P w' = .ok (if ok then .tuple #[v, .bool (look1 al a).isSome] else v) w' := by
  obtain ⟨es, clock, h1, h2, h3⟩ := hM
  have hf := fun w => run_find hK a w al es.toList (kvs_keys h2)
  rw [look1_idx]
  cases e : idx1 al a with
  | none =>
    refine ⟨zv, hz0, fun w' hw => ?_⟩
    have hget : (getObj gb).run P w' = .ok (.map es clock) w' := run_getMap (hw.trans h1)
    rw [e] at hf
    simp only [Option.bind_none] at hf
    simp only [Instr.lookup, Sem.run_bind, run_underlying hm, Result.andThen_ok, hget, Sem.run_pure, hK.ck, hf]
    cases ok <;> simp [hz]
  | some j =>
    obtain ⟨b, hb⟩ := idx1_key a al j e
    have hc : ((kvs enc cv al).map (·.2))[j]? = some (cv b) := by
      rw [kvs, List.map_map, List.getElem?_map, hb]; rfl
    obtain ⟨v, d1, d2⟩ := h3.get hc
    rw [List.getElem?_map] at d1
    obtain ⟨en, he, rfl⟩ := Option.map_eq_some_iff.1 d1
    refine ⟨en.val, by simpa [hb] using d2, fun w' hw => ?_⟩
    have hget : (getObj gb).run P w' = .ok (.map es clock) w' := run_getMap (hw.trans h1)
    rw [e] at hf
    simp only [Option.bind_some, he, Option.map_some] at hf
    simp only [Instr.lookup, Sem.run_bind, run_underlying hm, Result.andThen_ok, hget, Sem.run_pure, hK.ck, hf]
    cases ok <;> simp [hb]
theorem Ops.lookM {i : Nat} {hv zv : Value} {al : List (κ × β)} (z0 : β) (ka : κ) (hk : k.rd = true) (hg : gd ops L g = some true) (hx : ev L x = some (.ct (.ex hv))) (hi : bget B i = some (.mpx hv (kvs enc cv al))) (hy : KeyIs X L B y (enc ka)) (hm : X.P.underlying mt = some (.map kt et)) (hz : ∀ w, (zeroValue et).run X.P w = .ok zv w) (hz0 : ∀ S w, (cv z0).p S w zv) (hK : KeyT X.P kt enc) (hn : Nat.blt d X.n = true)
    (h : Ops X ops r ((d, .ct (cv ((look1 al ka).getD z0))) :: L) B K) : Ops X ops (.cons ⟨some d, .lookup mt x y false, t', pos, af, g⟩ k r) L B K :=
  Ops.rd (s := .ct (cv ((look1 al ka).getD z0))) hk hg rfl hn (fun a ρ w hI => by
    obtain ⟨h1, gb, h2, h3⟩ := (hI.ent i _ hi).1
    obtain ⟨v, c1, c2⟩ := run_lookup z0 false ka hm hz (hz0 (Sof X B ρ) w) hK h3
    refine ⟨v, fun w' hb => ?_, c1⟩
    show (do pure (Next.value (← Instr.lookup mt (a.eval x) (a.eval y) false)) : Sem Next).run X.P w' = _
    rw [hI.evx hx, ← h1, h2, hy a ρ w hI]
    obtain ⟨es, clock, h4, _⟩ := h3
    exact X9 (c2 w' (hb.block gb (ZZ h4)))) h
theorem Ops.lookM2 {i : Nat} {hv zv : Value} {al : List (κ × β)} (z0 : β) (ka : κ) (hk : k.rd = true) (hg : gd ops L g = some true) (hx : ev L x = some (.ct (.ex hv))) (hi : bget B i = some (.mpx hv (kvs enc cv al))) (hy : KeyIs X L B y (enc ka)) (hm : X.P.underlying mt = some (.map kt et)) (hz : ∀ w, (zeroValue et).run X.P w = .ok zv w) (hz0 : ∀ S w, (cv z0).p S w zv) (hK : KeyT X.P kt enc) (hn : Nat.blt d X.n = true)
    (h : Ops X ops r ((d, .ct (.fr (tupT [cv ((look1 al ka).getD z0), .ex (.bool (look1 al ka).isSome)]))) :: L) B K) : Ops X ops (.cons ⟨some d, .lookup mt x y true, t', pos, af, g⟩ k r) L B K :=
  Ops.rd (s := .ct (.fr (tupT [cv ((look1 al ka).getD z0), .ex (.bool (look1 al ka).isSome)]))) hk hg rfl hn (fun a ρ w hI => by
    obtain ⟨h1, gb, h2, h3⟩ := (hI.ent i _ hi).1
    obtain ⟨v, c1, c2⟩ := run_lookup z0 true ka hm hz (hz0 (Sof X B ρ) w) hK h3
    refine ⟨.tuple #[v, .bool (look1 al ka).isSome], fun w' hb => ?_, [v, .bool (look1 al ka).isSome], rfl, c1, rfl, trivial⟩
    show (do pure (Next.value (← Instr.lookup mt (a.eval x) (a.eval y) true)) : Sem Next).run X.P w' = _
    rw [hI.evx hx, ← h1, h2, hy a ρ w hI]
    obtain ⟨es, clock, h4, _⟩ := h3
    exact X9 (c2 w' (hb.block gb (ZZ h4)))) h
theorem Ops.lookF {zv : Value} {al : List (κ × β)} (z0 : β) (ka : κ) (hk : k.rd = true) (hg : gd ops L g = some true) (hx : ev L x = some (.ct (.fr (mapT (kvs enc cv al))))) (hy : KeyIs X L B y (enc ka)) (hm : X.P.underlying mt = some (.map kt et)) (hz : ∀ w, (zeroValue et).run X.P w = .ok zv w) (hz0 : ∀ S w, (cv z0).p S w zv) (hK : KeyT X.P kt enc) (hn : Nat.blt d X.n = true)
    (h : Ops X ops r ((d, .ct (cv ((look1 al ka).getD z0))) :: L) B K) : Ops X ops (.cons ⟨some d, .lookup mt x y false, t', pos, af, g⟩ k r) L B K :=
  Ops.rd (s := .ct (cv ((look1 al ka).getD z0))) hk hg rfl hn (fun a ρ w hI => by
    obtain ⟨gb, h1, _, h2, h3⟩ := hI.ev hx
    obtain ⟨v, c1, c2⟩ := run_lookup z0 false ka hm hz (hz0 (Sof X B ρ) w) hK h3
    refine ⟨v, fun w' hb => ?_, c1⟩
    show (do pure (Next.value (← Instr.lookup mt (a.eval x) (a.eval y) false)) : Sem Next).run X.P w' = _
    rw [h1, hy a ρ w hI]
    exact X9 (c2 w' (hb.block gb h2))) h
theorem run_set {P : Program} {S : BSet} {w : World} {gb : Nat} {al : List (κ × β)} {v : Value} (a : κ) (b : β) (hm : P.underlying mt = some (.map kt et)) (hK : KeyT P kt enc) (hM : mapAt S w gb (kvs enc cv al)) (hv : (cv b).p S w v) :
    ∃ (es : Array MapEntry) (clock : Nat), (Instr.mapUpdate mt (.map (some gb)) (enc a) v).run P w = .ok () { w with heap := w.heap.setIfInBounds gb (.map es clock) } ∧ es.toList.map (·.key) = (kvs enc cv (ins al a b)).map (·.1) ∧ cells S w ((kvs enc cv (ins al a b)).map (·.2)) (es.toList.map (·.val)) := by
  obtain ⟨es, clock, h1, h2, h3⟩ := hM
  have hf := run_find hK a w al es.toList (kvs_keys h2)
  have hget : (getObj gb).run P w = .ok (.map es clock) w := run_getMap h1
  have hset : ∀ o, (setObj gb o).run P w = .ok () { w with heap := w.heap.setIfInBounds gb o } := fun o => run_setMap o h1
  rw [ins_idx]
  cases e : idx1 al a with
  | none =>
    rw [e] at hf
    simp only [Option.bind_none] at hf
    refine ⟨es.push { key := enc a, val := v, born := clock }, clock + 1, ?_, ?_, ?_⟩
    · simp only [Instr.mapUpdate, Sem.run_bind, run_underlying hm, Result.andThen_ok, hget, hK.ck, hf]
      exact hset _
    · simp [kvs, kvs_keys h2]
    · simp only [kvs, List.map_append, List.map_cons, List.map_nil, Array.toList_push]
      refine cells.append (by simpa [kvs] using h3) ⟨hv, trivial⟩
  | some j =>
    obtain ⟨b0, hb⟩ := idx1_key a al j e
    have hj : j < al.length := (List.getElem?_eq_some_iff.1 hb).1
    have hk0 := congrArg (fun l => l[j]?) (kvs_keys h2)
    simp only [List.getElem?_map, hb, Option.map_some] at hk0
    obtain ⟨en, he, hke⟩ := Option.map_eq_some_iff.1 hk0
    rw [e] at hf
    simp only [Option.bind_some, he, Option.map_some] at hf
    have hes : es[j]? = some en := by rw [← Array.getElem?_toList]; exact he
    have hje : j < es.size := (Array.getElem?_eq_some_iff.1 hes).1
    refine ⟨es.modify j fun e => { e with key := enc a, val := v }, clock, ?_, ?_, ?_⟩
    · simp only [Instr.mapUpdate, Sem.run_bind, run_underlying hm, Result.andThen_ok, hget, hK.ck, hf, hes, Option.map_some, Option.getD_some, hke, Instr.keyThatStays, hK.sb, if_true, Sem.run_pure]
      exact hset _
    · have hT := kvs_keys h2
      rw [Array.toList_modify]
      apply List.ext_getElem?
      intro q
      have hq := congrArg (fun l => l[q]?) hT
      simp only [List.getElem?_map] at hq
      simp only [kvs, List.map_set, List.map_map, List.getElem?_map, List.getElem?_set, List.getElem?_modify]
      by_cases hqj : j = q
      · subst hqj
        simp [he, hj]
      · simp only [hqj, if_false, List.getElem?_map]
        simpa [Function.comp_def] using hq
    · have h4 := h3.set (i := j) hv
      rw [Array.toList_modify]
      have e1 : (kvs enc cv (al.set j (a, b))).map (·.2) = ((kvs enc cv al).map (·.2)).set j (cv b) := by simp [kvs, List.map_set]
      have e2 : (es.toList.modify j fun e => { e with key := enc a, val := v }).map (·.val) = (es.toList.map (·.val)).set j v := by
        apply List.ext_getElem?
        intro q
        simp only [List.getElem?_map, List.getElem?_modify, List.getElem?_set, List.length_map, Array.length_toList]
        by_cases hqj : j = q
        · subst hqj; simp [he, hje]
        · simp [hqj]
      show cells S w ((kvs enc cv (al.set j (a, b))).map (·.2)) _
      rw [e1, e2]; exact h4
theorem Xv {i : Nat} {hv : Value} {al : List (κ × β)} (ka : κ) (b : β) (hg : gd ops L g = some true) (hx : ev L x = some (.ct (.ex hv))) (hi : bget B i = some (.mpx hv (kvs enc cv al))) (hy : KeyIs X L B y (enc ka)) (hz : ev L z = some (.ct (cv b))) (hm : X.P.underlying mt = some (.map kt et)) (hK : KeyT X.P kt enc)
    (h : Ops X ops r L (bset B i (.mpx hv (kvs enc cv (ins al ka b)))) K) : Ops X ops (.cons ⟨none, .mapUpdate mt x y z, t', pos, af, g⟩ .any r) L B K := fun a ρ w hI => by
  show wpO _ _ _ _ _ _
  unfold wpO
  rw [if_pos (Zv (o := ⟨none, _, t', pos, af, g⟩) hI hg)]
  obtain ⟨h1, gb, h2, h3⟩ := (hI.ent i _ hi).1
  obtain ⟨es, clock, hrun, hk', hc'⟩ := run_set ka b hm hK h3 (hI.ev hz)
  have hlt : gb < w.heap.size := by obtain ⟨_, _, h4, _⟩ := h3; exact ZZ h4
  have hrun2 : (execOp a.eval ⟨none, .mapUpdate mt x y z, t', pos, af, g⟩).run X.P w = .ok .skip { w with heap := w.heap.setIfInBounds gb (.map es clock) } := by
    show (do Instr.mapUpdate mt (a.eval x) (a.eval y) (a.eval z); pure Next.skip : Sem Next).run X.P w = _
    rw [hI.evx hx, ← h1, h2, hy a ρ w hI]
    simp [hrun]
  unfold Oper.wp
  rw [hrun2]
  show wpX _ _ _ _ (a.put none undef) _
  rw [put_none]
  have hW := Is.write (v := ρ i) (e' := .mpx hv (kvs enc cv (ins al ka b))) (w' := { w with heap := w.heap.setIfInBounds gb (.map es clock) }) hI hi rfl rfl rfl (by simp)
    (fun q hq hne => by
      have : gb ≠ q := fun e => hne (by rw [h2, ← e]; rfl)
      simp [Array.getElem?_setIfInBounds, this]) (.inl rfl)
    (fun S' hk => ⟨h1, gb, h2, es, clock, by simp [Array.getElem?_setIfInBounds, hlt], hk', hc'.mono hk⟩) (.inl rfl) (.inl ⟨rfl, rfl⟩)
  exact h a _ _ (hW.bext (Xg hi))
theorem Fin.frzM (i j o : Nat) {v : Value} {tt : Nat} {kv : List (Value × CT)} {ds : List CT} (hi : bget B i = some (.mpx v kv)) (hj : bget (bdel B i) j = some (.box tt ds)) (ho : ds[o]? = some (.ex v)) (hS : okFix X i)
    (h : Fin X L (bset (bdel B i) j (.box tt (ds.set o (.fr (mapT kv))))) K) (hf : noFix X i = true := by rfl) : Fin X L B K := fun a ρ w hI => by
  obtain ⟨h2, h3⟩ := (hI.ent i _ hi).1
  have hv : (mapT kv).p (Sof X (bdel B i) ρ) w (ρ i) := hI.frozen_val (e2 := .mp kv) hi rfl h3 (hI.okFix hi hS)
  rw [h2] at hv
  have hD := hI.dropB i hf
  obtain ⟨gb, us, h4, h5, h6⟩ := (hD.ent j _ hj).1
  have hu : us[o]? = some v := by
    obtain ⟨u, hu1, hu2⟩ := h6.get ho
    have : u = v := hu2
    rw [← this]; exact hu1
  have hset : us.set o v = us := by
    apply List.ext_getElem?
    intro q
    rw [List.getElem?_set]
    split
    · rename_i hq; subst hq
      rw [hu]
      split
      · rfl
      · rename_i hlt; exact absurd (List.getElem?_eq_some_iff.1 hu).1 hlt
    · rfl
  refine h a ρ w (hD.retype hj ⟨gb, us, h4, h5, ?_⟩ rfl)
  rw [← hset]; exact h6.set hv
theorem St.frzM {c : Code} {Q : Exit → Act → World → Prop} (i j o : Nat) {v : Value} {tt : Nat} {kv : List (Value × CT)} {ds : List CT} (hi : bget B i = some (.mpx v kv)) (hj : bget (bdel B i) j = some (.box tt ds)) (ho : ds[o]? = some (.ex v)) (hS : okFix X i)
    (h : St X L (bset (bdel B i) j (.box tt (ds.set o (.fr (mapT kv))))) c Q) (hf : noFix X i = true := by rfl) : St X L B c Q := Fin.frzM i j o hi hj ho hS h hf
end
end Go.Own
namespace Go.Proofs.YtlkdkbdgnjcopaaGreat
open Go.Own Go.Limbs
structure Tk where
  va : Int
  ds : Fin 4294967296
  pr : Int
deriving DecidableEq
def trOf (r : Rs) : Tk := ⟨r.va, r.dst, r.pr⟩
def tkI (t : Tk) : List Int := [t.va, (t.ds.val : Int), t.pr]
def cmpT (a b : Tk) : Int := cmpL (tkI a) (tkI b)
theorem ordT : Ord cmpT where
  anti a b := cmpL_anti _ _
  eq0 a b h := by
    have := cmpL_eq (xs := tkI a) (ys := tkI b) rfl h
    obtain ⟨a1, a2, a3⟩ := a
    obtain ⟨b1, b2, b3⟩ := b
    simp only [tkI, List.cons.injEq, and_true, Int.ofNat_inj, Fin.val_inj] at this
    obtain ⟨h1, h2, h3⟩ := this
    rw [h1, h2, h3]
  trans a b c := cmpL_trans (xs := tkI a) (ys := tkI b) (zs := tkI c) rfl rfl
def usR (r : Rs) : Bool := !r.db && okR r
def fiR (r : Rs) : Bool := r.an && (decide (r.ki ≠ 1) && usR r)
def endS (e : Int) (r : Rs) : Int := if (e = 0 ∨ r.tt < e) ∧ fiR r = true then r.tt else e
def endF (l : List Rs) : Int := l.foldl endS 0
abbrev Sp := Int × Int
abbrev AdM := List (Sp × Fin 4294967296)
abbrev StM := List (Sp × Int)
def lookS (e : Int) (m : AdM × StM) (r : Rs) : AdM × StM :=
  if usR r = false ∨ (0 < e ∧ e < r.tt) then m
  else if r.an = false then (m.1, ins m.2 (r.fl, r.tt) (max ((look1 m.2 (r.fl, r.tt)).getD 0) 1))
  else if (look1 m.2 (r.fl, r.tt)).getD 0 ≤ 1 then (ins m.1 (r.fl, r.tt) r.fr, ins m.2 (r.fl, r.tt) 2)
  else if (look1 m.2 (r.fl, r.tt)).getD 0 = 2 ∧ (look1 m.1 (r.fl, r.tt)).getD 0 ≠ r.fr then (ins m.1 (r.fl, r.tt) 0, ins m.2 (r.fl, r.tt) 3)
  else m
def lookG (l : List Rs) : AdM × StM := l.foldl (lookS (endF l)) ([], [])
def hasS (m : StM) (fl tt : Int) : Bool := decide ((look1 m (fl, tt)).getD 0 = 2) || decide ((look1 m (fl, tt)).getD 0 = 1)
def pathG (m : AdM × StM) (fl : Int) : Nat → Int → List (Fin 4294967296)
  | 0, _ => []
  | k + 1, tt => if hasS m.2 fl tt then (look1 m.1 (fl, tt)).getD 0 :: pathG m fl k (tt + 1) else []
def pathF (l : List Rs) (fl : Int) : List (Fin 4294967296) := pathG (lookG l) fl 256 1
theorem lookG_keys (l : List Rs) : ∀ s v, look1 (lookG l).2 s = some v → 1 ≤ v ∧ ∃ r ∈ l, usR r = true ∧ s = (r.fl, r.tt) := by
  have key : ∀ (q : List Rs) (m : AdM × StM), (∀ r ∈ q, r ∈ l) → (∀ s v, look1 m.2 s = some v → 1 ≤ v ∧ ∃ r ∈ l, usR r = true ∧ s = (r.fl, r.tt)) → ∀ s v, look1 (q.foldl (lookS (endF l)) m).2 s = some v → 1 ≤ v ∧ ∃ r ∈ l, usR r = true ∧ s = (r.fl, r.tt) := by
    intro q
    induction q with
    | nil => intro m _ h; exact h
    | cons r q ih =>
      intro m hq hm
      refine ih (lookS (endF l) m r) (fun x hx => hq x (List.mem_cons_of_mem _ hx)) ?_
      have hr := hq r (List.mem_cons_self ..)
      intro s v hs
      unfold lookS at hs
      split at hs
      · exact hm s v hs
      · rename_i hu
        have hus : usR r = true := by
          cases h : usR r with
          | true => rfl
          | false => exact absurd (.inl h) hu
        have fin : ∀ w : Int, 1 ≤ w → look1 (ins m.2 (r.fl, r.tt) w) s = some v → 1 ≤ v ∧ ∃ r ∈ l, usR r = true ∧ s = (r.fl, r.tt) := fun w hw h => by
          rw [Xr] at h
          split at h
          · rename_i e; injection h with h; exact ⟨by omega, r, hr, hus, e⟩
          · exact hm s v h
        split at hs
        · exact fin _ (by omega) hs
        · split at hs
          · exact fin 2 (by decide) hs
          · split at hs
            · exact fin 3 (by decide) hs
            · exact hm s v hs
  exact key l ([], []) (fun _ h => h) (fun s v h => by cases h)
abbrev Wr := Fin 4294967296 × Fin 4294967296
def wiresG : Fin 4294967296 → List (Fin 4294967296) → Bool → List Wr
  | _, [], _ => []
  | p, a :: l, first => (if a ≠ 0 ∧ (first = true ∨ p ≠ 0) then [(p, a)] else []) ++ wiresG a l false
def wayF (l : List Rs) (r : Rs) : List Wr :=
  if usR r = false then []
  else
    let p := pathF (((sd cmpR (l.filter okR)).filter fun x => decide (trOf x = trOf r))) r.fl
    if r.tt ≤ p.length then wiresG 0 (p.take r.tt.toNat) true
    else if (p.length : Int) < r.tt - 1 ∨ r.an = true then []
    else wiresG 0 p true
end Go.Proofs.YtlkdkbdgnjcopaaGreat
namespace Go.Limbs
theorem row_at {α : Type} (D l : List α) (q : Nat) (z : α) (h : D.length ≤ q) : (D ++ l.drop D.length).getD q z = l.getD q z := by
  rw [List.getD_eq_getElem?_getD, List.getElem?_append_right h, List.getElem?_drop, List.getD_eq_getElem?_getD, show D.length + (q - D.length) = q by omega]
theorem row_set {α : Type} (D l : List α) (x : α) (h : D.length < l.length) : (D ++ l.drop D.length).set D.length x = (D ++ [x]) ++ l.drop (D ++ [x]).length := by
  rw [List.set_append_right _ _ (Nat.le_refl _), Nat.sub_self, List.length_append, List.length_singleton, List.drop_eq_getElem_cons h, List.set_cons_zero, List.append_assoc]; rfl
end Go.Limbs
namespace Go.Proofs.YtlkdkbdgnjcopaaGreat
open Go.Own Go.Limbs
attribute [local irreducible] St Ops Go.Own.Fin Ok OkB OkN OkT OkL OkF
theorem rss_take (l : List Rs) (i : Nat) : (rss l).take (i * 17) = rss (l.take i) := el_take rs_len l i
section
variable {X : Ctx} {L : AL} {B : BL} {ops : Array Oper} {K : Act → World → Prop} {r : Pl} {k : Kd}
  {x y z : Operand} {d : Nat} {t t2 t' : TypeId} {pos : String} {af : Array Edge} {g : Option (Nat × Bool)}
theorem neRs' (p q : Rs) (hg : gd ops L g = some true) (hx : ev L x = some (.ct (rsC p))) (hy : ev L y = some (.ct (rsC q))) (hP : X.P = Tryz.prog) (hn : Nat.blt d X.n = true)
    (h : Ops X ops r ((d, .ct (boolC (decide (¬ p = q)))) :: L) B K) : Ops X ops (.cons ⟨some d, .binOp .neq 35 x y t2, t', pos, af, g⟩ k r) L B K :=
  neRs p q hg hx hy hP hn (by rw [← decide_not]; exact h)
end
theorem goCompact_Rs : InGo Tryz.prog 90 := InGo.of Tryz.func90 (by kernel_rfl) (by kernel_rfl)
set_option maxHeartbeats 4000000 in
theorem Compact_Rs_ok (l : List Rs) (hl : l.length ≤ 100000) : OkT Tryz.prog 90 35 17 (rss l) [] (rss (dd l)) := by
  refine OkT.enter Tryz.func90 rfl _ Tryz.ntmps90 rfl ?_
  intro S w h0
  (refine Qw (Qx fun K hK => ?_); refine Qv rfl rfl rfl ?_; refine Qj (hK _ _ (Qz (Qw (Qw ?_)))); clear hK K; refine Qx (fun K hK => ?_); refine Qq rfl rfl rfl ?_)
  refine Yv l.length rfl rfl rfl (by decide) (X1 l) (by with_reducible exact sRes.und) rfl ?_
  (refine Qk ilss rfl rfl rfl rfl ?_; refine Qj (hK _ _ (Qz ?_)); clear hK K)
  refine Q2 rfl (fun h => ?_) (fun h => ?_)
  · rw [dd_small (l := l) (by omega)]
    (refine Qw (Qx fun K hK => ?_); refine Qq rfl rfl rfl ?_; refine Qv rfl rfl rfl ?_; refine Qj (hK _ _ (Qz (Q0 (QY ?_)))); clear hK K)
    refine Fin.retT rfl rfl rfl
  (refine Q1 (Qz (Qw (Qw (Qx fun K hK => ?_)))); refine Qv rfl rfl rfl ?_; refine Qj (hK _ _ (Qz (Q4 ?_))); clear hK K)
  refine Xz (α := Nat) (fun i => i + 1 ≤ l.length ∧ dd (l.take (i + 1)) = l.take (i + 1))
    (fun i => [(0, .own 0), (3, .ct (intC (i + 1)))]) (fun _ => [(0, .row 35 17 (rss l))]) (fun i => l.length - i) 0 ⟨by omega, dd_small (by rw [List.length_take]; omega)⟩ (by exact Qu rfl ⟨rfl, rfl, trivial⟩) ?_
  rintro i ⟨hi, hd⟩
  try dsimp only at hi hd
  try dsimp only
  (refine Qw (Qw (Qx fun K hK => ?_)); refine Qq rfl rfl rfl ?_; refine Qq rfl rfl rfl ?_)
  refine Yv l.length rfl rfl rfl (by decide) (X1 l) (by with_reducible exact sRes.und) rfl ?_
  (refine Qk ilss rfl rfl rfl rfl ?_; refine Qj (hK _ _ (Qz ?_)); clear hK K)
  refine Q2 rfl (fun h => ?_) (fun h => ?_)
  rotate_left
  · have e : dd l = l := by
      have := hd
      rw [List.take_of_length_le (by omega)] at this
      exact this
    rw [e]
    (refine Qn (Qz (Qw (Qx fun K hK => ?_))); refine Qq rfl rfl rfl ?_; refine Qv rfl rfl rfl ?_; refine Qj (hK _ _ (Qz (Q0 ?_))); clear hK K)
    refine Fin.retT rfl rfl rfl
  (refine Q1 (Qz (Qw (Q4 (Qw ?_)))))
  refine Xu (by with_reducible exact mixed) 10 (.p 0 (.p 1 (.p 2 (.p 4 (.p 5 (.p 6 (.p 7 (.f 3 (.f 8 (.p 9 .done)))))))))) (by kernel_rfl) (fun K hK => ?_)
  (refine Qq rfl rfl rfl ?_; refine Qq rfl rfl rfl ?_)
  refine Xi l.length rfl rfl rfl (X1 l) rfl (by with_reducible exact sRes) (by omega) (by omega) rfl ?_
  (refine Qq rfl rfl rfl ?_; refine Qq rfl rfl rfl ?_; refine Qk (isub (by omega) (by omega)) rfl rfl rfl rfl ?_)
  refine Xi l.length rfl rfl rfl (X1 l) rfl (by with_reducible exact sRes) (by omega) (by omega) rfl ?_
  skip
  refine ldE rsCs rs0 rs_len rfl rfl rfl rfl rfl (by omega) (by with_reducible exact lRes) rfl ?_
  refine ldE rsCs rs0 rs_len rfl rfl rfl rfl rfl (by omega) (by with_reducible exact lRes) rfl ?_
  rw [show ((i : Int) + 1).toNat = i + 1 by omega, show ((i : Int) + 1 - 1).toNat = i by omega]
  generalize hx : l.getD i rs0 = x
  generalize hy : l.getD (i + 1) rs0 = y
  refine eqRs y x rfl rfl rfl rfl rfl ?_
  (refine Qj (hK _ _ (Qz ?_)); clear hK K)
  have hs := dd_step (l := l) (z := rs0) (p := i + 1) (by omega) (by omega)
  rw [show i + 1 - 1 = i by omega, hx, hy] at hs
  refine Q2 rfl (fun he => ?_) (fun he => ?_)
  rotate_left
  · (refine Q1 (Qz (Qx fun K hK => ?_)); refine Qq rfl rfl rfl ?_; refine Qk (iadd (by omega) (by omega)) rfl rfl rfl rfl ?_; refine Qv rfl rfl rfl ?_; refine Qj (hK _ _ (Q3 ?_)); clear hK K)
    refine Q7 (i + 1) (by omega) ⟨by omega, ?_⟩ (by exact Qu rfl ⟨rfl, by simp only [Int.natCast_add]; rfl, trivial⟩)
    rw [hs, if_neg he, hd, List.take_add_one (i := i + 1), List.getElem?_eq_getElem (by omega), ← hy, List.getD_eq_getElem?_getD, List.getElem?_eq_getElem (by omega)]; rfl
  rw [if_pos he, hd] at hs
  refine St.nameS 0 0 l.length rfl rfl (X1 l) (by omega) (by decide) (fun gb c hc1 hc2 => ?_)
  (refine Qw (Qx fun K hK => ?_); refine Qq rfl rfl rfl ?_; refine Qq rfl rfl rfl ?_)
  refine Ops.cutKl (i + 1) rfl rfl rfl (by omega) sRes (by omega) rfl ?_
  rw [if_neg (show ¬ c = i + 1 by omega), Nat.zero_add]
  (refine Qv rfl rfl rfl ?_; refine Qj (hK _ _ (Qz (Qw (Qw ?_)))); clear hK K; refine Qx (fun K hK => ?_); refine Qv rfl rfl rfl ?_; refine Qj (hK _ _ (Qz (Q4 ?_))); clear hK K)
  refine Xz (α := Nat) (fun j => i + 2 + j ≤ l.length ∧ (dd (l.take (i + 2 + j))).length < i + 2 + j)
    (fun j => [(0, .ct (.ex (kh gb 0 l.length c))), (3, .ct (intC (dd (l.take (i + 2 + j))).length)), (4, .ct (.ex (kh gb ((i + 1) * 17) (l.length - (i + 1)) (c - (i + 1))))), (5, .ct (intC (j + 1)))])
    (fun j => [(0, .rowx (kh gb 0 l.length c) 35 17 (rss (dd (l.take (i + 2 + j)) ++ l.drop (dd (l.take (i + 2 + j))).length)))]) (fun j => l.length - j) 0
    ⟨by omega, by rw [Nat.add_zero, hs, List.length_take]; omega⟩ (by
      rw [Nat.add_zero, hs, List.length_take, Nat.min_eq_left hi, List.take_append_drop]
      exact Qu rfl ⟨rfl, rfl, rfl, rfl, trivial⟩) ?_
  clear hs
  rintro j ⟨hj, hD⟩
  try dsimp only at hj hD
  try dsimp only
  have hs := dd_step (l := l) (z := rs0) (p := i + 2 + j) (by omega)
  generalize hDD : dd (l.take (i + 2 + j)) = D at hs hD ⊢
  have hrl : (D ++ l.drop D.length).length = l.length := by rw [List.length_append, List.length_drop]; omega
  have hat : ∀ q, D.length ≤ q → (D ++ l.drop D.length).getD q rs0 = l.getD q rs0 := fun q hq => row_at D l q rs0 hq
  (refine Qw (Qw (Qx fun K hK => ?_)); refine Qq rfl rfl rfl ?_; refine Qq rfl rfl rfl ?_)
  refine Ops.lenKv rfl rfl sRes.und rfl ?_
  (refine Qk ilss rfl rfl rfl rfl ?_; refine Qj (hK _ _ (Qz ?_)); clear hK K)
  refine Q2 rfl (fun h2 => ?_) (fun h2 => ?_)
  · (refine Q1 (Qz (Qw (Q4 (Qw ?_)))))
    refine Xu (by with_reducible exact mixed) 10 (.p 0 (.p 1 (.p 2 (.p 4 (.p 5 (.p 6 (.p 7 (.f 3 (.f 8 (.p 9 .done)))))))))) (by kernel_rfl) (fun K hK => ?_)
    (refine Qq rfl rfl rfl ?_; refine Qq rfl rfl rfl ?_)
    refine YQ 0 (i + 1) rfl rfl rfl rfl sRes (by omega) (by omega) rfl ?_
    (refine Qq rfl rfl rfl ?_; refine Qq rfl rfl rfl ?_; refine Qk (isub (by omega) (by omega)) rfl rfl rfl rfl ?_)
    refine YQ 0 (i + 1) rfl rfl rfl rfl sRes (by omega) (by omega) rfl ?_
    skip
    refine ldE rsCs rs0 rs_len rfl rfl rfl rfl rfl (by omega) (by with_reducible exact lRes) rfl ?_
    refine ldE rsCs rs0 rs_len rfl rfl rfl rfl rfl (by omega) (by with_reducible exact lRes) rfl ?_
    rw [show i + 1 + ((j : Int) + 1).toNat = i + 2 + j by omega, show i + 1 + ((j : Int) + 1 - 1).toNat = i + 2 + j - 1 by omega, hat _ (by omega), hat _ (by omega)]
    have hs := hs (by omega)
    generalize hx2 : l.getD (i + 2 + j - 1) rs0 = x2 at hs ⊢
    generalize hy2 : l.getD (i + 2 + j) rs0 = y2 at hs ⊢
    refine neRs' y2 x2 rfl rfl rfl rfl rfl ?_
    (refine Qj (hK _ _ (Qz ?_)); clear hK K)
    refine Q2 rfl (fun he2 => ?_) (fun he2 => ?_)
    · rw [if_neg he2] at hs
      (refine Qw (Qx fun K hK => ?_); refine Qq rfl rfl rfl ?_; refine Qq rfl rfl rfl ?_; refine Qq rfl rfl rfl ?_; refine Qq rfl rfl rfl ?_)
      refine YQ 0 (i + 1) rfl rfl rfl rfl sRes (by omega) (by omega) rfl ?_
      refine ldE rsCs rs0 rs_len rfl rfl rfl rfl rfl (by omega) (by with_reducible exact lRes) rfl ?_
      rw [show i + 1 + ((j : Int) + 1).toNat = i + 2 + j by omega, hat _ (by omega), hy2]
      refine YQ 0 0 rfl rfl rfl rfl sRes (by omega) (by omega) rfl ?_
      rw [Nat.zero_add, show ((D.length : Int)).toNat = D.length by omega]
      refine stEX rsCs y2 rs_len rfl rfl rfl rfl rfl (by omega) (by with_reducible exact szRes) ?_
      rw [row_set D l y2 (by omega)]
      (refine Qj (hK _ _ (Qz ?_)); clear hK K; refine Qx (fun K hK => ?_); refine Qq rfl rfl rfl ?_; refine Qk (iadd (by omega) (by omega)) rfl rfl rfl rfl ?_; refine Qv rfl rfl rfl ?_; refine Qj (hK _ _ (Qz ?_)); clear hK K; refine Qx (fun K hK => ?_); refine Qq rfl rfl rfl ?_; refine Qk (iadd (by omega) (by omega)) rfl rfl rfl rfl ?_; refine Qv rfl rfl rfl ?_; refine Qj (hK _ _ (Q3 ?_)); clear hK K)
      refine Q7 (j + 1) (by omega) ⟨by omega, by show (dd (l.take (i + 2 + j + 1))).length < _; rw [hs, List.length_append]; show D.length + 1 < _; omega⟩ ?_
      rw [show i + 2 + (j + 1) = i + 2 + j + 1 by omega, hs, List.length_append]
      exact Qu rfl ⟨rfl, by simp only [Int.natCast_add]; rfl, rfl, by simp only [Int.natCast_add]; rfl, trivial⟩
    · rw [if_pos (Decidable.not_not.1 he2)] at hs
      (refine Q1 (Qz (Qx fun K hK => ?_)); refine Qq rfl rfl rfl ?_; refine Qk (iadd (by omega) (by omega)) rfl rfl rfl rfl ?_; refine Qv rfl rfl rfl ?_; refine Qj (hK _ _ (Q3 ?_)); clear hK K)
      refine Q7 (j + 1) (by omega) ⟨by omega, by show (dd (l.take (i + 2 + j + 1))).length < _; rw [hs]; omega⟩ ?_
      rw [show i + 2 + (j + 1) = i + 2 + j + 1 by omega, hs]
      exact Qu rfl ⟨rfl, rfl, rfl, by simp only [Int.natCast_add]; rfl, trivial⟩
  · have e : dd l = D := by rw [← hDD, List.take_of_length_le (by omega)]
    rw [e]
    (refine Qn (Qz (Qw (Qx fun K hK => ?_))); refine Qq rfl rfl rfl ?_; refine Qq rfl rfl rfl ?_)
    refine Ops.cutKl D.length rfl rfl rfl rfl sRes (by omega) rfl ?_
    skip
    refine Ops.cutOff 0 D.length rfl (by show (rss _).length = _; rw [X1, hrl]) (by decide) (by omega) (by show (rss _).take _ = rss D; rw [rss_take, List.take_left]) ?_
    refine Ops.clearK 0 rfl rfl (by split <;> omega) rfl (X1 D) (by omega) sRes (by decide) ?_
    (refine Qj (hK _ _ (Qz (Qw ?_))); clear hK K; refine Qx (fun K hK => ?_); refine Qq rfl rfl rfl ?_; refine Qq rfl rfl rfl ?_)
    refine Ops.cutKh D.length rfl rfl rfl rfl sRes (by omega) rfl ?_
    (refine Qv rfl rfl rfl ?_; refine Qj (hK _ _ (Qz (Q0 (Q8 (QY (QY (Q8 (QY ?_)))))))); clear hK K)
    refine Fin.link 2 0 rfl rfl ?_
    refine Fin.retT rfl rfl rfl
end Go.Proofs.YtlkdkbdgnjcopaaGreat
namespace Go.Proofs.YtlkdkbdgnjcopaaGreat
open Go.Shelf
def laySortR_ren : Go.Shelf.Ren := ⟨fun | 6 => 88 | 15 => 118 | 14 => 126 | 28 => 155 | 29 => 156 | 20 => 161 | 21 => 162 | 22 => 163 | 23 => 164 | 24 => 165 | 25 => 166 | 26 => 167 | 27 => 168 | 46 => 194 | 47 => 182 | 48 => 183 | 49 => 195 | 50 => 196 | 57 => 202 | n => n, fun | 22 => 29 | 24 => 35 | 25 => 143 | 3 => 3 | 39 => 172 | 0 => 0 | 53 => 26 | 55 => 153 | 4 => 4 | 46 => 201 | 45 => 200 | 50 => 205 | 5 => 5 | 9 => 9 | 66 => 227 | 70 => 231 | 76 => 240 | 77 => 241 | n => n, fun | n => n⟩
theorem laySortR : Go.Proofs.SlLaysF0.n6 Tryz.prog laySortR_ren := {
  mixed := by kernel_rfl
  f6 := ⟨Tryz.f88.name, by decide, Tryz.func88.trans (congrArg some (by kernel_rfl))⟩
  f14 := ⟨Tryz.f126.name, by decide, Tryz.func126.trans (congrArg some (by kernel_rfl))⟩
  f15 := Tryz.func118.trans (congrArg some (by kernel_rfl))
  f20 := ⟨Tryz.f161.name, by decide, Tryz.func161.trans (congrArg some (by kernel_rfl))⟩
  f21 := ⟨Tryz.f162.name, by decide, Tryz.func162.trans (congrArg some (by kernel_rfl))⟩
  f22 := ⟨Tryz.f163.name, by decide, Tryz.func163.trans (congrArg some (by kernel_rfl))⟩
  f23 := ⟨Tryz.f164.name, by decide, Tryz.func164.trans (congrArg some (by kernel_rfl))⟩
  f24 := ⟨Tryz.f165.name, by decide, Tryz.func165.trans (congrArg some (by kernel_rfl))⟩
  f25 := ⟨Tryz.f166.name, by decide, Tryz.func166.trans (congrArg some (by kernel_rfl))⟩
  f26 := ⟨Tryz.f167.name, by decide, Tryz.func167.trans (congrArg some (by kernel_rfl))⟩
  f27 := ⟨Tryz.f168.name, by decide, Tryz.func168.trans (congrArg some (by kernel_rfl))⟩
  f28 := Tryz.func155.trans (congrArg some (by kernel_rfl))
  f29 := Tryz.func156.trans (congrArg some (by kernel_rfl))
  f46 := ⟨Tryz.f194.name, by decide, Tryz.func194.trans (congrArg some (by kernel_rfl))⟩
  f47 := Tryz.func182.trans (congrArg some (by kernel_rfl))
  f48 := Tryz.func183.trans (congrArg some (by kernel_rfl))
  f49 := ⟨Tryz.f195.name, by decide, Tryz.func195.trans (congrArg some (by kernel_rfl))⟩
  f50 := ⟨Tryz.f196.name, by decide, Tryz.func196.trans (congrArg some (by kernel_rfl))⟩
  f57 := ⟨Tryz.f202.name, by decide, Tryz.func202.trans (congrArg some (by kernel_rfl))⟩
  t0 := Tryz.underlying0
  a0 := Tryz.isAgg0
  z0 := Tryz.sizeOf0
  v0 := Tryz.zeroValue0
  t3 := Tryz.underlying3
  a3 := Tryz.isAgg3
  z3 := Tryz.sizeOf3
  v3 := Tryz.zeroValue3
  t4 := Tryz.underlying4
  a4 := Tryz.isAgg4
  z4 := Tryz.sizeOf4
  v4 := Tryz.zeroValue4
  t5 := Tryz.underlying5
  a5 := Tryz.isAgg5
  z5 := Tryz.sizeOf5
  v5 := Tryz.zeroValue5
  t9 := Tryz.underlying9
  a9 := Tryz.isAgg9
  z9 := Tryz.sizeOf9
  v9 := Tryz.zeroValue9
  t22 := Tryz.underlying29
  a22 := Tryz.isAgg29
  z22 := Tryz.sizeOf29
  v22 := Tryz.zeroValue29
  t25 := Tryz.underlying143
  a25 := Tryz.isAgg143
  z25 := Tryz.sizeOf143
  v25 := Tryz.zeroValue143
  t39 := Tryz.underlying172
  a39 := Tryz.isAgg172
  z39 := Tryz.sizeOf172
  v39 := Tryz.zeroValue172
  t45 := Tryz.underlying200
  a45 := Tryz.isAgg200
  z45 := Tryz.sizeOf200
  v45 := Tryz.zeroValue200
  t46 := Tryz.underlying201
  a46 := Tryz.isAgg201
  z46 := Tryz.sizeOf201
  v46 := Tryz.zeroValue201
  t50 := Tryz.underlying205
  a50 := Tryz.isAgg205
  z50 := Tryz.sizeOf205
  v50 := Tryz.zeroValue205
  t53 := Tryz.underlying26
  a53 := Tryz.isAgg26
  z53 := Tryz.sizeOf26
  v53 := Tryz.zeroValue26
  t55 := Tryz.underlying153
  a55 := Tryz.isAgg153
  z55 := Tryz.sizeOf153
  v55 := Tryz.zeroValue153
  t66 := Tryz.underlying227
  a66 := Tryz.isAgg227
  z66 := Tryz.sizeOf227
  v66 := Tryz.zeroValue227
  t70 := Tryz.underlying231
  a70 := Tryz.isAgg231
  z70 := Tryz.sizeOf231
  v70 := Tryz.zeroValue231
  t76 := Tryz.underlying240
  a76 := Tryz.isAgg240
  z76 := Tryz.sizeOf240
  v76 := Tryz.zeroValue240
  t77 := Tryz.underlying241
  a77 := Tryz.isAgg241
  z77 := Tryz.sizeOf241
  v77 := Tryz.zeroValue241 }
end Go.Proofs.YtlkdkbdgnjcopaaGreat
namespace Go.Proofs.YtlkdkbdgnjcopaaGreat
open Go.Own Go.Limbs Go.Shelf
open Go.Sort hiding Ok
attribute [local irreducible] St Ops Go.Own.Fin Ok OkB OkN OkT OkL OkF
theorem ordR : Ord cmpR := ⟨fun _ _ => cmpL_anti _ _, fun _ _ h => rsO_inj (cmpL_eq rfl h), fun x y z h1 h2 => cmpL_trans (xs := rsO x) (ys := rsO y) (zs := rsO z) rfl rfl h1 h2⟩
abbrev cmpRV : CT := .ex (.func (.func 89) #[] #[])
theorem goSortR : InGo Tryz.prog 88 := InGo.of Tryz.func88 rfl (by decide)
theorem SortR_ok (l : List Rs) (hl : l.length < 4611686018427387904) : OkL Tryz.prog 88 35 17 (rss l) [cmpRV] unitC (rss (l.mergeSort fun x y => !(ltOf cmpR) y x)) :=
  sortFunc_L laySortR (enc := rsV) (k := 17) (cf := cmpR) (g := 89) (by decide) Tryz.isAgg35 Tryz.sizeOf35 (fun _ => rfl) (fun x v hv => by
    simp only [rsV, List.mem_cons, List.not_mem_nil, or_false] at hv
    rcases hv with rfl | rfl | rfl | rfl | rfl | rfl | rfl | rfl | rfl | rfl | rfl | rfl | rfl | rfl | rfl | rfl | rfl <;> rfl)
    ordR.swo ordR.tot goCmpR cmpR_ok 35 l hl
theorem ZK (l : List Rs) (r : Rs) : rss (l ++ [r]) = rss l ++ rsCs r := by simp [rss]
theorem Zo {α : Type} (p : α → Bool) {l : List α} {z : α} {i : Nat} (h : i < l.length) : (l.take (i + 1)).filter p = if p (l.getD i z) = true then (l.take i).filter p ++ [l.getD i z] else (l.take i).filter p := by
  have e : l.take (i + 1) = l.take i ++ [l.getD i z] := by
    rw [List.take_add_one, List.getElem?_eq_getElem h, List.getD_eq_getElem?_getD, List.getElem?_eq_getElem h]; rfl
  rw [e, List.filter_append]
  by_cases hp : p (l.getD i z) = true
  · rw [if_pos hp, List.filter_cons_of_pos hp]; rfl
  · rw [if_neg hp, List.filter_cons_of_neg hp]; simp
theorem Yu {α : Type} (p : α → Bool) (l : List α) (i : Nat) : ((l.take i).filter p).length ≤ i := Nat.le_trans (List.length_filter_le _ _) (by rw [List.length_take]; omega)
theorem goOrder : InGo Tryz.prog 45 := InGo.of Tryz.func45 rfl (by decide)
set_option maxHeartbeats 4000000 in
theorem Order_ok (l : List Rs) (hl : l.length ≤ 10000) : OkF Tryz.prog 45 [rssC l] 35 17 (rss (sd cmpR (l.filter okR))) := by
  refine OkF.enter Tryz.func45 rfl _ Tryz.ntmps45 rfl ?_
  intro S w
  (refine Qw (Qx fun K hK => ?_); refine Qv rfl rfl rfl ?_; refine Qj (hK _ _ (Qz (Qw ?_))); clear hK K; refine Qx (fun K hK => ?_); refine Qv rfl rfl rfl ?_; refine Qj (hK _ _ (Qz (Qw (Qw ?_)))); clear hK K; refine Qx (fun K hK => ?_); refine Qq rfl rfl rfl ?_; refine Qd rfl rfl (by with_reducible exact sRes.und) (List.length_map ..) rfl ?_; refine Qq rfl rfl rfl ?_; refine Qj (hK _ _ (Qz (Q4 ?_))); clear hK K)
  refine Xf 3 0 35 17 rfl rfl rfl ?_
  refine Xz (α := Nat) (fun i => i ≤ l.length)
    (fun i => [(3, .own 0), (6, .ct (rssC l)), (7, .ct (intC l.length)), (8, .ct (intC i))]) (fun i => [(0, .row 35 17 (rss ((l.take i).filter okR)))]) (fun i => l.length - i) 0 (Nat.zero_le _) (by exact Qu rfl ⟨rfl, rfl, rfl, rfl, trivial⟩) ?_
  intro i hi
  try dsimp only at hi
  try dsimp only
  (refine Qw (Qx fun K hK => ?_); refine Qk ilss rfl rfl rfl rfl ?_; refine Qj (hK _ _ (Qz (Qw ?_))); clear hK K)
  refine Q2 rfl (fun h => ?_) (fun h => ?_)
  · have e2 : (i : Int).toNat = i := Int.toNat_natCast i
    have hs := Zo okR (z := rs0) (i := i) (l := l) (by omega)
    have hfl := Yu okR l i
    (refine Q1 (Qz (Qw (Q4 (Qw (Qx fun K hK => ?_))))); refine Qg rfl rfl rfl (by with_reducible exact sRes) (by omega) (Xa (by omega) (by omega)) rfl ?_; refine XZ (n := 17) rfl rfl rfl (by with_reducible exact lRes) rfl rfl ?_; refine Qh 1 rfl rfl (by with_reducible exact zvRes) rfl rfl rfl ?_; refine Qe 17 rfl rfl rfl rfl rfl (by with_reducible exact szRes) rfl rfl ?_; refine Qj (hK _ _ (Qz (Qw ?_))); clear hK K; refine Qx (fun K hK => ?_); refine Qa (n := 17) rfl rfl rfl rfl rfl (by with_reducible exact lRes) rfl ?_)
    rw [e2]
    generalize l.getD i rs0 = c at hs
    skip
    refine Ops.callF goValidR rfl (ValidR_ok c) rfl rfl rfl rfl ?_
    (refine Qj (hK _ _ (Qz ?_)); clear hK K)
    refine XX rfl (fun h2 => ?_) (fun h2 => ?_)
    · rw [if_pos h2] at hs
      (refine Qx (fun K hK => ?_); refine Qq rfl rfl rfl ?_; refine Qa (n := 17) rfl rfl rfl rfl rfl (by with_reducible exact lRes) rfl ?_)
      generalize (l.take i).filter okR = out at hs hfl ⊢
      refine X6 (n := 17) rfl rfl (by with_reducible exact sRes) rfl rfl (by decide) rfl ?_
      refine Qs out.length (rss (out ++ [c])) rfl rfl rfl rfl (by with_reducible exact sRes) (X1 out) rfl (by omega) (by omega) (ZK out c) rfl ?_
      (refine Qv rfl rfl rfl ?_; refine Qj (hK _ _ (Qz ?_)); clear hK K; refine Qx (fun K hK => ?_); refine Qk (iadd (by omega) (by omega)) rfl rfl rfl rfl ?_; refine Qq rfl rfl rfl ?_; refine Qj (hK _ _ (Q3 ?_)); clear hK K)
      refine Qm 1 ?_
      refine Q7 (i + 1) (by omega) (by omega) (by rw [hs]; exact Qu rfl ⟨rfl, rfl, rfl, by simp only [Int.natCast_add]; rfl, trivial⟩)
    · rw [if_neg (by rw [h2]; decide)] at hs
      (refine Q1 (Qz (Qx fun K hK => ?_)); refine Qk (iadd (by omega) (by omega)) rfl rfl rfl rfl ?_; refine Qq rfl rfl rfl ?_; refine Qj (hK _ _ (Q3 ?_)); clear hK K)
      refine Qm 1 ?_
      refine Q7 (i + 1) (by omega) (by omega) (by rw [hs]; exact Qu rfl ⟨rfl, rfl, rfl, by simp only [Int.natCast_add]; rfl, trivial⟩)
  · have hi' : i = l.length := by omega
    rw [hi', List.take_length]
    have hfl : (l.filter okR).length ≤ l.length := List.length_filter_le _ _
    generalize l.filter okR = m at hfl ⊢
    (refine Qn (Qz (Qw (Qx fun K hK => ?_))); refine Qq rfl rfl rfl ?_)
    refine Ops.callL goSortR (SortR_ok m (by omega)) rfl rfl rfl rfl rfl ?_
    (refine Qj (hK _ _ (Qz (Qw ?_))); clear hK K; refine Qx (fun K hK => ?_); refine Qq rfl rfl rfl ?_)
    refine Ops.callT goCompact_Rs (Compact_Rs_ok _ (by rw [List.length_mergeSort]; omega)) rfl rfl rfl rfl rfl ?_
    (refine Qv rfl rfl rfl ?_; refine Qj (hK _ _ (Qz (Q0 ?_))); clear hK K)
    refine Fin.retF rfl rfl rfl rfl
end Go.Proofs.YtlkdkbdgnjcopaaGreat
namespace Go.Proofs.YtlkdkbdgnjcopaaGreat
open Go.Own Go.Limbs
attribute [local irreducible] St Ops Go.Own.Fin Ok OkB OkN OkT OkL OkF
theorem goUsable : InGo Tryz.prog 91 := InGo.of Tryz.func91 rfl (by decide)
theorem Usable_ok (r : Rs) : Ok Tryz.prog 91 [rsC r] (boolC (usR r)) := by
  have hV := ValidR_ok r
  have e0 : usR r = (!r.db && okR r) := rfl
  generalize okR r = b at hV e0
  refine Ok.enter Tryz.func91 rfl _ Tryz.ntmps91 rfl ?_
  intro S w
  (refine Qw (Qx fun K hK => ?_); refine Xk 0 rfl rfl rfl rfl rfl rfl rfl ?_; refine Qv rfl rfl rfl ?_; refine Qj (hK _ _ (Qz (Qw ?_))); clear hK K; refine Qx (fun K hK => ?_); refine QV rfl rfl rfl (by with_reducible first | exact fS0 | exact fS1 | exact fS2 | exact fS3 | exact fS4 | exact fS5 | exact fS6 | exact fS7 | exact fS8 | exact fS9 | exact fS10 | exact fS11 | exact fN0 | exact fN1 | exact fN2 | exact fN3 | exact fN4 | exact fN5) rfl ?_; refine QJ rfl rfl rfl rfl rfl (by with_reducible first | exact lInt | exact Q9 | exact Q6 | exact lRess) rfl ?_; refine Qp rfl rfl rfl ?_; refine Qq rfl rfl rfl ?_)
  refine X3 6 (b := !r.db) rfl (fun h => ?_) (fun h => ?_)
  · (refine Qa (n := 17) rfl rfl rfl rfl rfl (by with_reducible exact lRes) rfl ?_)
    refine QW goValidR hV rfl rfl rfl rfl ?_
    (refine QZ rfl rfl rfl rfl ?_; refine Qv rfl rfl rfl ?_; refine Qj (hK _ _ (Qz (Q0 ?_))); clear hK K)
    refine QU [_] rfl (QQ rfl QX) (by rw [e0, h, Bool.true_and]; rfl) rfl
  · (refine Qy rfl rfl rfl ?_; refine Qy rfl rfl rfl ?_; refine QK rfl rfl rfl rfl ?_; refine Qv rfl rfl rfl ?_; refine Qj (hK _ _ (Qz (Q0 ?_))); clear hK K)
    refine QU [_] rfl (QQ rfl QX) (by rw [e0, h, Bool.false_and]; rfl) rfl
theorem goFinal : InGo Tryz.prog 197 := InGo.of Tryz.func197 rfl (by decide)
theorem Final_ok (r : Rs) : Ok Tryz.prog 197 [rsC r] (boolC (fiR r)) := by
  have hU := Usable_ok r
  have e0 : fiR r = (r.an && (decide (r.ki ≠ 1) && usR r)) := rfl
  generalize usR r = b at hU e0
  refine Ok.enter Tryz.func197 rfl _ Tryz.ntmps197 rfl ?_
  intro S w
  (refine Qw (Qx fun K hK => ?_); refine Xk 0 rfl rfl rfl rfl rfl rfl rfl ?_; refine Qv rfl rfl rfl ?_; refine Qj (hK _ _ (Qz (Qw ?_))); clear hK K; refine Qx (fun K hK => ?_); refine QV rfl rfl rfl (by with_reducible first | exact fS0 | exact fS1 | exact fS2 | exact fS3 | exact fS4 | exact fS5 | exact fS6 | exact fS7 | exact fS8 | exact fS9 | exact fS10 | exact fS11 | exact fN0 | exact fN1 | exact fN2 | exact fN3 | exact fN4 | exact fN5) rfl ?_; refine QJ rfl rfl rfl rfl rfl (by with_reducible first | exact lInt | exact Q9 | exact Q6 | exact lRess) rfl ?_; refine Qq rfl rfl rfl ?_)
  refine X3 5 (b := r.an) rfl (fun h => ?_) (fun h => ?_)
  · (refine QV rfl rfl rfl (by with_reducible first | exact fS0 | exact fS1 | exact fS2 | exact fS3 | exact fS4 | exact fS5 | exact fS6 | exact fS7 | exact fS8 | exact fS9 | exact fS10 | exact fS11 | exact fN0 | exact fN1 | exact fN2 | exact fN3 | exact fN4 | exact fN5) rfl ?_; refine X2 rfl rfl (by with_reducible first | exact fN0 | exact fN1 | exact fN2 | exact fN3 | exact fN4 | exact fN5) rfl ?_; refine QJ rfl rfl rfl rfl rfl (by with_reducible first | exact lInt | exact Q9 | exact Q6 | exact lRess) rfl ?_; refine Qk ineq rfl rfl rfl rfl ?_; refine QZ rfl rfl rfl rfl ?_; refine Qq rfl rfl rfl ?_)
    refine Q5 11 (p := r.ki ≠ 1) rfl (fun h2 => ?_) (fun h2 => ?_)
    · (refine Qa (n := 17) rfl rfl rfl rfl rfl (by with_reducible exact lRes) rfl ?_)
      refine QW goUsable hU rfl rfl rfl rfl ?_
      (refine QZ rfl rfl rfl rfl ?_; refine Qv rfl rfl rfl ?_; refine Qj (hK _ _ (Qz (Q0 ?_))); clear hK K)
      refine QU [_] rfl (QQ rfl QX) (by rw [e0, h, decide_eq_true h2, Bool.true_and, Bool.true_and]; rfl) rfl
    · (refine Qy rfl rfl rfl ?_; refine Qy rfl rfl rfl ?_; refine QK rfl rfl rfl rfl ?_; refine Qv rfl rfl rfl ?_; refine Qj (hK _ _ (Qz (Q0 ?_))); clear hK K)
      refine QU [_] rfl (QQ rfl QX) (by rw [e0, h, decide_eq_false h2, Bool.true_and, Bool.false_and]; rfl) rfl
  · (refine Qy rfl rfl rfl ?_; refine Qy rfl rfl rfl ?_; refine Qy rfl rfl rfl ?_; refine Qy rfl rfl rfl ?_; refine QK rfl rfl rfl rfl ?_; refine Qq rfl rfl rfl ?_; refine Qy rfl rfl rfl ?_; refine Qy rfl rfl rfl ?_; refine QK rfl rfl rfl rfl ?_; refine Qv rfl rfl rfl ?_; refine Qj (hK _ _ (Qz (Q0 ?_))); clear hK K)
    refine QU [_] rfl (QQ rfl QX) (by rw [e0, h, Bool.false_and]; rfl) rfl
abbrev tkCs (t : Tk) : List CT := [intC t.va, adrF t.ds, intC t.pr]
abbrev tkC (t : Tk) : CT := .fr (aggT (tkCs t))
theorem goTraceOf : InGo Tryz.prog 92 := InGo.of Tryz.func92 rfl (by decide)
theorem TraceOf_ok (r : Rs) : Ok Tryz.prog 92 [rsC r] (tkC (trOf r)) := by
  refine Ok.enter Tryz.func92 rfl _ Tryz.ntmps92 rfl ?_
  intro S w
  (refine Qw (Qx fun K hK => ?_); refine Xk 0 rfl rfl rfl rfl rfl rfl rfl ?_)
  refine Qh 1 rfl rfl (by with_reducible exact zvTrace) rfl rfl rfl ?_
  (refine Qj (hK _ _ (Qz (Qw ?_))); clear hK K; refine Qx (fun K hK => ?_); refine QV rfl rfl rfl (by with_reducible first | exact fS0 | exact fS1 | exact fS2 | exact fS3 | exact fS4 | exact fS5 | exact fS6 | exact fS7 | exact fS8 | exact fS9 | exact fS10 | exact fS11 | exact fN0 | exact fN1 | exact fN2 | exact fN3 | exact fN4 | exact fN5) rfl ?_; refine QJ rfl rfl rfl rfl rfl (by with_reducible first | exact lInt | exact Q9 | exact Q6 | exact lRess) rfl ?_; refine QV rfl rfl rfl (by with_reducible first | exact fS0 | exact fS1 | exact fS2 | exact fS3 | exact fS4 | exact fS5 | exact fS6 | exact fS7 | exact fS8 | exact fS9 | exact fS10 | exact fS11 | exact fN0 | exact fN1 | exact fN2 | exact fN3 | exact fN4 | exact fN5) rfl ?_; refine QJ rfl rfl rfl rfl rfl (by with_reducible first | exact lInt | exact Q9 | exact Q6 | exact lRess) rfl ?_; refine QV rfl rfl rfl (by with_reducible first | exact fS0 | exact fS1 | exact fS2 | exact fS3 | exact fS4 | exact fS5 | exact fS6 | exact fS7 | exact fS8 | exact fS9 | exact fS10 | exact fS11 | exact fN0 | exact fN1 | exact fN2 | exact fN3 | exact fN4 | exact fN5) rfl ?_; refine QJ rfl rfl rfl rfl rfl (by with_reducible first | exact lInt | exact Q9 | exact Q6 | exact lRess) rfl ?_)
  refine Xq rfl (by with_reducible exact bTrace) rfl (.one rfl rfl rfl rfl (.one rfl rfl rfl rfl (.one rfl rfl rfl rfl .nil))) rfl ?_
  refine Qe 3 rfl rfl rfl rfl rfl (by with_reducible exact szTrace) rfl rfl ?_
  (refine Qj (hK _ _ (Qz (Q0 ?_))); clear hK K)
  refine Fin.end [_] rfl (Qi (n := 3) rfl rfl (by with_reducible exact Z4) rfl QX) rfl rfl
structure Ik where
  va : Int
  ru : Int
  nu : Int
deriving DecidableEq
def idOf (r : Rs) : Ik := ⟨r.va, r.ru, r.nu⟩
abbrev ikCs (i : Ik) : List CT := [intC i.va, intC i.ru, intC i.nu]
abbrev ikC (i : Ik) : CT := .fr (aggT (ikCs i))
theorem lID : LdN Tryz.prog 124 3 := LdN.of _ Tryz.underlying124 rfl (by kernel_rfl)
theorem szID : (Tryz.prog.info? 124).map (·.size) = some 3 := by kernel_rfl
theorem zvID : (Tryz.prog.info? 124).map (·.zero) = some (some (.agg #[.int .i64 0, .int .i64 0, .int .i64 0])) := by kernel_rfl
theorem bID' : bInfo Tryz.prog 124 = some (.agg #[.int .i64 0, .int .i64 0, .int .i64 0], [(0, some 1), (1, some 1), (2, some 1)]) := by kernel_rfl
theorem Zr : InGo Tryz.prog 64 := InGo.of Tryz.func64 rfl (by decide)
theorem YX (r : Rs) : Ok Tryz.prog 64 [rsC r] (ikC (idOf r)) := by
  refine Ok.enter Tryz.func64 rfl _ Tryz.ntmps64 rfl ?_
  intro S w
  (refine Qw (Qx fun K hK => ?_); refine Xk 0 rfl rfl rfl rfl rfl rfl rfl ?_)
  refine Qh 1 rfl rfl (by with_reducible exact zvID) rfl rfl rfl ?_
  (refine Qj (hK _ _ (Qz (Qw ?_))); clear hK K; refine Qx (fun K hK => ?_); refine QV rfl rfl rfl (by with_reducible first | exact fS0 | exact fS1 | exact fS2 | exact fS3 | exact fS4 | exact fS5 | exact fS6 | exact fS7 | exact fS8 | exact fS9 | exact fS10 | exact fS11 | exact fN0 | exact fN1 | exact fN2 | exact fN3 | exact fN4 | exact fN5) rfl ?_; refine QJ rfl rfl rfl rfl rfl (by with_reducible first | exact lInt | exact Q9 | exact Q6 | exact lRess) rfl ?_; refine QV rfl rfl rfl (by with_reducible first | exact fS0 | exact fS1 | exact fS2 | exact fS3 | exact fS4 | exact fS5 | exact fS6 | exact fS7 | exact fS8 | exact fS9 | exact fS10 | exact fS11 | exact fN0 | exact fN1 | exact fN2 | exact fN3 | exact fN4 | exact fN5) rfl ?_; refine QJ rfl rfl rfl rfl rfl (by with_reducible first | exact lInt | exact Q9 | exact Q6 | exact lRess) rfl ?_; refine QV rfl rfl rfl (by with_reducible first | exact fS0 | exact fS1 | exact fS2 | exact fS3 | exact fS4 | exact fS5 | exact fS6 | exact fS7 | exact fS8 | exact fS9 | exact fS10 | exact fS11 | exact fN0 | exact fN1 | exact fN2 | exact fN3 | exact fN4 | exact fN5) rfl ?_; refine QJ rfl rfl rfl rfl rfl (by with_reducible first | exact lInt | exact Q9 | exact Q6 | exact lRess) rfl ?_)
  refine Xq rfl (by with_reducible exact bID') rfl (.one rfl rfl rfl rfl (.one rfl rfl rfl rfl (.one rfl rfl rfl rfl .nil))) rfl ?_
  refine Qe 3 rfl rfl rfl rfl rfl (by with_reducible exact szID) rfl rfl ?_
  (refine Qj (hK _ _ (Qz (Q0 ?_))); clear hK K)
  refine Fin.end [_] rfl (Qi (n := 3) rfl rfl (by with_reducible exact lID) rfl QX) rfl rfl
theorem foldl_take {α β : Type} (f : β → α → β) (b : β) {l : List α} {z : α} {i : Nat} (h : i < l.length) : (l.take (i + 1)).foldl f b = f ((l.take i).foldl f b) (l.getD i z) := by
  have e : l.take (i + 1) = l.take i ++ [l.getD i z] := by
    rw [List.take_add_one, List.getElem?_eq_getElem h, List.getD_eq_getElem?_getD, List.getElem?_eq_getElem h]; rfl
  rw [e, List.foldl_append]; rfl
theorem goEnd : InGo Tryz.prog 169 := InGo.of Tryz.func169 rfl (by decide)
set_option maxHeartbeats 4000000 in
theorem End_ok (l : List Rs) (hl : l.length ≤ 100000) : Ok Tryz.prog 169 [rssC l] (intC (endF l)) := by
  refine Ok.enter Tryz.func169 rfl _ Tryz.ntmps169 rfl ?_
  intro S w
  (refine Qw (Qx fun K hK => ?_); refine Qv rfl rfl rfl ?_; refine Qj (hK _ _ (Qz (Qw ?_))); clear hK K; refine Qx (fun K hK => ?_); refine Qv rfl rfl rfl ?_; refine Qj (hK _ _ (Qz (Qw (Qw ?_)))); clear hK K; refine Qx (fun K hK => ?_); refine Qq rfl rfl rfl ?_; refine Qd rfl rfl (by with_reducible exact sRes.und) (List.length_map ..) rfl ?_; refine Qq rfl rfl rfl ?_; refine Qj (hK _ _ (Qz (Q4 ?_))); clear hK K)
  refine Xz (α := Nat) (fun i => i ≤ l.length)
    (fun i => [(3, .ct (intC ((l.take i).foldl endS 0))), (6, .ct (rssC l)), (7, .ct (intC l.length)), (8, .ct (intC i))]) (fun _ => []) (fun i => l.length - i) 0 (Nat.zero_le _) (by exact Qu rfl ⟨rfl, rfl, rfl, rfl, trivial⟩) ?_
  intro i hi
  try dsimp only at hi ⊢
  (refine Qw (Qx fun K hK => ?_); refine Qk ilss rfl rfl rfl rfl ?_; refine Qj (hK _ _ (Qz (Qw ?_))); clear hK K)
  refine Q2 rfl (fun h => ?_) (fun h => ?_)
  · have e2 : (i : Int).toNat = i := Int.toNat_natCast i
    have hs := foldl_take endS 0 (z := rs0) (l := l) (i := i) (by omega)
    generalize (l.take i).foldl endS 0 = e at hs
    have next : ∀ e' : Int, endS e (l.getD i rs0) = e' → (l.take (i + 1)).foldl endS 0 = e' := fun e' h => by rw [hs, h]
    clear hs
    (refine Q1 (Qz (Qw (Q4 (Qw (Qx fun K hK => ?_))))); refine Qg rfl rfl rfl (by with_reducible exact sRes) (by omega) (Xa (by omega) (by omega)) rfl ?_; refine XZ (n := 17) rfl rfl rfl (by with_reducible exact lRes) rfl rfl ?_; refine Qh 0 rfl rfl (by with_reducible exact zvRes) rfl rfl rfl ?_; refine Qe 17 rfl rfl rfl rfl rfl (by with_reducible exact szRes) rfl rfl ?_; refine Qj (hK _ _ (Qz (Qw ?_))); clear hK K; refine Qx (fun K hK => ?_); refine Qq rfl rfl rfl ?_; refine Qk ieql rfl rfl rfl rfl ?_; refine Qq rfl rfl rfl ?_)
    rw [e2]
    generalize l.getD i rs0 = c at next
    have hF := Final_ok c
    have es : endS e c = if (e = 0 ∨ c.tt < e) ∧ fiR c = true then c.tt else e := rfl
    generalize fiR c = fb at hF es
    skip
    refine Q5 14 (p := e = 0) rfl (fun h1 => ?_) (fun h1 => ?_)
    · (refine Qy rfl rfl rfl ?_; refine Qy rfl rfl rfl ?_; refine Qy rfl rfl rfl ?_; refine Qy rfl rfl rfl ?_; refine QZ rfl rfl rfl rfl ?_; refine Qq rfl rfl rfl ?_; refine Qa (n := 17) rfl rfl rfl rfl rfl (by with_reducible exact lRes) rfl ?_)
      refine QW goFinal hF rfl rfl rfl rfl ?_
      (refine QZ rfl rfl rfl rfl ?_; refine Qj (hK _ _ (Qz ?_)); clear hK K)
      refine XX rfl (fun h2 => ?_) (fun h2 => ?_)
      · have en := next c.tt (by rw [es, if_pos ⟨.inl h1, h2⟩])
        (refine Qx (fun K hK => ?_); refine QV rfl rfl rfl (by with_reducible first | exact fS0 | exact fS1 | exact fS2 | exact fS3 | exact fS4 | exact fS5 | exact fS6 | exact fS7 | exact fS8 | exact fS9 | exact fS10 | exact fS11 | exact fN0 | exact fN1 | exact fN2 | exact fN3 | exact fN4 | exact fN5) rfl ?_; refine QJ rfl rfl rfl rfl rfl (by with_reducible first | exact lInt | exact Q9 | exact Q6 | exact lRess) rfl ?_; refine Qv rfl rfl rfl ?_; refine Qj (hK _ _ (Qz ?_)); clear hK K; refine Qx (fun K hK => ?_); refine Qk (iadd (by omega) (by omega)) rfl rfl rfl rfl ?_; refine Qq rfl rfl rfl ?_; refine Qj (hK _ _ (Q3 ?_)); clear hK K)
        refine Qm 0 ?_
        refine Q7 (i + 1) (by omega) (by omega) (by rw [en]; exact Qu rfl ⟨rfl, rfl, rfl, by simp only [Int.natCast_add]; rfl, trivial⟩)
      · have en := next e (by rw [es, if_neg (fun h3 => by rw [h2] at h3; exact absurd h3.2 (by decide))])
        (refine Q1 (Qz (Qx fun K hK => ?_)); refine Qk (iadd (by omega) (by omega)) rfl rfl rfl rfl ?_; refine Qq rfl rfl rfl ?_; refine Qj (hK _ _ (Q3 ?_)); clear hK K)
        refine Qm 0 ?_
        refine Q7 (i + 1) (by omega) (by omega) (by rw [en]; exact Qu rfl ⟨rfl, rfl, rfl, by simp only [Int.natCast_add]; rfl, trivial⟩)
    · (refine QV rfl rfl rfl (by with_reducible first | exact fS0 | exact fS1 | exact fS2 | exact fS3 | exact fS4 | exact fS5 | exact fS6 | exact fS7 | exact fS8 | exact fS9 | exact fS10 | exact fS11 | exact fN0 | exact fN1 | exact fN2 | exact fN3 | exact fN4 | exact fN5) rfl ?_; refine QJ rfl rfl rfl rfl rfl (by with_reducible first | exact lInt | exact Q9 | exact Q6 | exact lRess) rfl ?_; refine Qq rfl rfl rfl ?_; refine Qk ilss rfl rfl rfl rfl ?_; refine QK rfl rfl rfl rfl ?_; refine Qq rfl rfl rfl ?_)
      refine Q5 20 (p := c.tt < e) rfl (fun h3 => ?_) (fun h3 => ?_)
      · (refine Qa (n := 17) rfl rfl rfl rfl rfl (by with_reducible exact lRes) rfl ?_)
        refine QW goFinal hF rfl rfl rfl rfl ?_
        (refine QZ rfl rfl rfl rfl ?_; refine Qj (hK _ _ (Qz ?_)); clear hK K)
        refine XX rfl (fun h2 => ?_) (fun h2 => ?_)
        · have en := next c.tt (by rw [es, if_pos ⟨.inr h3, h2⟩])
          (refine Qx (fun K hK => ?_); refine QV rfl rfl rfl (by with_reducible first | exact fS0 | exact fS1 | exact fS2 | exact fS3 | exact fS4 | exact fS5 | exact fS6 | exact fS7 | exact fS8 | exact fS9 | exact fS10 | exact fS11 | exact fN0 | exact fN1 | exact fN2 | exact fN3 | exact fN4 | exact fN5) rfl ?_; refine QJ rfl rfl rfl rfl rfl (by with_reducible first | exact lInt | exact Q9 | exact Q6 | exact lRess) rfl ?_; refine Qv rfl rfl rfl ?_; refine Qj (hK _ _ (Qz ?_)); clear hK K; refine Qx (fun K hK => ?_); refine Qk (iadd (by omega) (by omega)) rfl rfl rfl rfl ?_; refine Qq rfl rfl rfl ?_; refine Qj (hK _ _ (Q3 ?_)); clear hK K)
          refine Qm 0 ?_
          refine Q7 (i + 1) (by omega) (by omega) (by rw [en]; exact Qu rfl ⟨rfl, rfl, rfl, by simp only [Int.natCast_add]; rfl, trivial⟩)
        · have en := next e (by rw [es, if_neg (fun h3 => by rw [h2] at h3; exact absurd h3.2 (by decide))])
          (refine Q1 (Qz (Qx fun K hK => ?_)); refine Qk (iadd (by omega) (by omega)) rfl rfl rfl rfl ?_; refine Qq rfl rfl rfl ?_; refine Qj (hK _ _ (Q3 ?_)); clear hK K)
          refine Qm 0 ?_
          refine Q7 (i + 1) (by omega) (by omega) (by rw [en]; exact Qu rfl ⟨rfl, rfl, rfl, by simp only [Int.natCast_add]; rfl, trivial⟩)
      · have en := next e (by rw [es, if_neg (fun h4 => h4.1.elim h1 h3)])
        (refine Qy rfl rfl rfl ?_; refine Qy rfl rfl rfl ?_; refine QK rfl rfl rfl rfl ?_; refine Qj (hK _ _ (Qz (Xx rfl (Q1 (Qz ?_))))); clear hK K; refine Qx (fun K hK => ?_); refine Qk (iadd (by omega) (by omega)) rfl rfl rfl rfl ?_; refine Qq rfl rfl rfl ?_; refine Qj (hK _ _ (Q3 ?_)); clear hK K)
        refine Qm 0 ?_
        refine Q7 (i + 1) (by omega) (by omega) (by rw [en]; exact Qu rfl ⟨rfl, rfl, rfl, by simp only [Int.natCast_add]; rfl, trivial⟩)
  · have hi' : i = l.length := by omega
    have el : (l.take i).foldl endS 0 = endF l := by rw [hi', List.take_length]; rfl
    rw [el]
    (refine Qn (Qz (Qw (Qx fun K hK => ?_))); refine Qq rfl rfl rfl ?_; refine Qv rfl rfl rfl ?_; refine Qj (hK _ _ (Qz (Q0 ?_))); clear hK K)
    refine QU [_] rfl (QQ rfl QX) rfl rfl
end Go.Proofs.YtlkdkbdgnjcopaaGreat
namespace Go.Own
open Go.RowKit
def encI (ks : List IntKind) (ps : List Int) : Value := .agg ((ks.zip ps).map (fun p => Value.int p.1 p.2)).toArray
structure FlatK (P : Program) (t : TypeId) (ks : List IntKind) : Prop where
  und : ∃ fs, P.underlying t = some (.struct fs)
  eq : ∀ (ps qs : List Int) (w : World), ps.length = ks.length → qs.length = ks.length → (Op.equalIn 10000 t (encI ks ps) (encI ks qs)).run P w = .ok (decide (ps = qs)) w
  ck : ∀ (e : Bool) (ps : List Int) (w : World), ps.length = ks.length → (Instr.checkKey e 10000 t (encI ks ps)).run P w = .ok () w
theorem run_ckStruct {P : Program} {t : TypeId} {fs : Array Field} (hu : P.underlying t = some (.struct fs)) (e : Bool) (n : Nat) (xs : Array Value) (w : World)
    (h : ∀ f ∈ fs.toList, f.name ≠ "_" ∧ ∃ a, (part f.type xs f.offset).run P w = .ok a w ∧ (Instr.checkKey e n f.type a).run P w = .ok () w) : (Instr.checkKey e (n + 1) t (.agg xs)).run P w = .ok () w := by
  rw [Instr.checkKey]
  simp only [Sem.run_bind, run_underlying hu, Result.andThen_ok]
  rw [← Array.forIn_toList]
  generalize fs.toList = L at h
  induction L with
  | nil => simp
  | cons f L ih =>
    obtain ⟨hn, a, p1, p2⟩ := h f (by simp)
    simp only [List.forIn_cons, Sem.run_bind, hn, ne_eq, not_false_eq_true, if_true, Result.andThen_ok, p1, p2, Sem.run_pure]
    exact ih (fun y hy => h y (by simp [hy]))
theorem run_ckInt {P : Program} {t : TypeId} {k : IntKind} (hu : P.underlying t = some (.int k)) (e : Bool) (n : Nat) (v : Int) (w : World) : (Instr.checkKey e (n + 1) t (.int k v)).run P w = .ok () w := by
  simp [Instr.checkKey, run_underlying hu]
theorem ck_ints {P : Program} (e : Bool) (n : Nat) (xs : Array Value) (w : World) : ∀ (fs : List Field) (ks : List IntKind) (ps : List Int) (s : Nat), ps.length = ks.length →
    fs.map (fun f => (f.name == "_", f.offset, P.underlying f.type)) = (ks.zipIdx s).map (fun p => (false, p.2, some (TypeDesc.int p.1))) →
    (∀ j kk p, ks[j]? = some kk → ps[j]? = some p → xs[s + j]? = some (.int kk p)) → ∀ f ∈ fs, f.name ≠ "_" ∧ ∃ a, (part f.type xs f.offset).run P w = .ok a w ∧ (Instr.checkKey e (n + 1) f.type a).run P w = .ok () w
  | [], _, _, _, _, _, _, _, hf => by cases hf
  | g :: fs, [], _, _, _, h, _, _, _ => by simp at h
  | g :: fs, k :: ks, [], _, h0, _, _, _, _ => by simp at h0
  | g :: fs, k :: ks, p :: ps, s, h0, h, hx, f, hf => by
    simp only [List.map_cons, List.zipIdx_cons] at h
    injection h with h1 h2
    injection h1 with hn ho
    injection ho with ho hu
    rcases List.mem_cons.1 hf with rfl | hf
    · have hx0 := hx 0 k p rfl rfl
      rw [Nat.add_zero] at hx0
      exact ⟨by simpa using hn, _, run_part_int hu (by rw [ho]; exact hx0) w, run_ckInt hu e n p w⟩
    · exact ck_ints e n xs w fs ks ps (s + 1) (by simpa using h0) h2 (fun j kk p' a b => by rw [show s + 1 + j = s + (j + 1) by omega]; exact hx (j + 1) kk p' a b) f hf
theorem EqS.flat {P : Program} {t : TypeId} {ks : List IntKind} (h : EqS P t ks) : FlatK P t ks where
  und := ⟨_, h.und⟩
  eq ps qs w h1 h2 := h.run ps qs h1 h2 w
  ck e ps w h1 := run_ckStruct h.und e 9999 _ w (ck_ints e 9998 _ w _ ks ps 0 h1 h.fields (fun j kk p a b => by rw [Nat.zero_add, List.getElem?_toArray]; exact zip_get a b))
structure EqF (P : Program) (t ta : TypeId) (k1 k2 : List IntKind) : Prop where
  und : P.underlying t = some (.struct (P.fieldsOf t))
  held : P.stoodInHeld t = false
  fields : ((P.fieldsOf t).toList.drop 1).map (fun f => (f.name == "_", f.offset, P.underlying f.type)) = (k2.zipIdx k1.length).map (fun p => (false, p.2, some (TypeDesc.int p.1)))
  first : ((P.fieldsOf t).toList.head?).map (fun f => (f.name == "_", f.offset, f.type)) = some (false, 0, ta)
  unda : P.underlying ta = some (.struct (P.fieldsOf ta))
  helda : P.stoodInHeld ta = false
  size : (P.info? ta).map (·.size) = some k1.length
  fieldsa : (P.fieldsOf ta).toList.map (fun f => (f.name == "_", f.offset, P.underlying f.type)) = k1.zipIdx.map (fun p => (false, p.2, some (TypeDesc.int p.1)))
theorem EqF.flat {P : Program} {t ta : TypeId} {k1 k2 : List IntKind} (h : EqF P t ta k1 k2) : FlatK P t (k1 ++ k2) := by
  obtain ⟨fa, fs, hfs⟩ : ∃ fa fs, (P.fieldsOf t).toList = fa :: fs := by
    cases e : (P.fieldsOf t).toList with
    | nil => have := h.first; rw [e] at this; cases this
    | cons fa fs => exact ⟨fa, fs, rfl⟩
  have hF := h.fields
  rw [hfs] at hF
  simp only [List.drop_succ_cons, List.drop_zero] at hF
  have h1 := h.first
  rw [hfs] at h1
  simp only [List.head?_cons, Option.map_some, Option.some.injEq, Prod.mk.injEq] at h1
  obtain ⟨hn, ho, ht⟩ := h1
  have hne : fa.name ≠ "_" := by simpa using hn
  have hpart : ∀ (ps : List Int) (w : World), ps.length = (k1 ++ k2).length → (part fa.type (((k1 ++ k2).zip ps).map (fun p => Value.int p.1 p.2)).toArray fa.offset).run P w = .ok (encI k1 (ps.take k1.length)) w := fun ps w hl => by
    have hs : (sizeOf fa.type).run P w = .ok k1.length w := by
      rw [ht]
      obtain ⟨i, hi, hs⟩ := Option.map_eq_some_iff.1 h.size
      simp [sizeOf, typeInfo, hi, hs]
    have ha : (isAgg fa.type).run P w = .ok true w := by simp [isAgg, run_underlying (ht ▸ h.unda)]
    simp only [part, Sem.run_bind, ha, Result.andThen_ok, if_true, hs, Sem.run_pure]
    unfold encI
    congr 2
    rw [ho]
    apply Array.ext'
    simp only [Array.toList_extract, List.extract_eq_take_drop, List.drop_zero, Nat.zero_add, Nat.sub_zero]
    rw [← List.map_take, List.zip_eq_zipWith, List.take_zipWith, List.take_left, ← List.zip_eq_zipWith]
  have hget : ∀ (ps : List Int), ps.length = (k1 ++ k2).length → ∀ (j : Nat) (kk : IntKind) (p : Int), k2[j]? = some kk → (ps.drop k1.length)[j]? = some p → (((k1 ++ k2).zip ps).map (fun p => Value.int p.1 p.2)).toArray[k1.length + j]? = some (.int kk p) := fun ps hl j kk p a b => by
    rw [List.getElem?_toArray]
    refine zip_get ?_ ?_
    · rw [List.getElem?_append_right (by omega), Nat.add_sub_cancel_left]; exact a
    · rw [List.getElem?_drop] at b; exact b
  have hgeta : ∀ (ps : List Int) (j : Nat) (kk : IntKind) (p : Int), k1[j]? = some kk → ps[j]? = some p → ((k1.zip ps).map (fun p => Value.int p.1 p.2)).toArray[0 + j]? = some (.int kk p) := fun ps j kk p a b => by
    rw [Nat.zero_add, List.getElem?_toArray]; exact zip_get a b
  refine ⟨⟨_, h.und⟩, fun ps qs w hp hq => ?_, fun e ps w hp => ?_⟩
  · unfold encI
    rw [run_equalIn_struct w 9999 t _ _ h.und h.held, hfs]
    simp only [Op.eqFields, if_pos hne, Sem.run_bind]
    rw [hpart ps w hp]
    simp only [Result.andThen_ok]
    rw [hpart qs w hq]
    simp only [Result.andThen_ok]
    rw [ht]
    unfold encI
    have lp : (ps.take k1.length).length = k1.length := by rw [List.length_take]; simp at hp; omega
    have lq : (qs.take k1.length).length = k1.length := by rw [List.length_take]; simp at hq; omega
    rw [run_equalIn_struct w 9998 ta _ _ h.unda h.helda, run_eqFields 9997 _ _ w _ k1 _ _ 0 lp lq h.fieldsa (hgeta _) (hgeta _)]
    simp only [Result.andThen_ok]
    by_cases h2 : ps.take k1.length = qs.take k1.length
    · simp only [h2, decide_true, Bool.not_true, Bool.false_eq_true, if_false]
      rw [run_eqFields 9998 _ _ w fs k2 (ps.drop k1.length) (qs.drop k1.length) k1.length (by simp at hp ⊢; omega) (by simp at hq ⊢; omega) hF (hget ps hp) (hget qs hq)]
      congr 1
      refine decide_eq_decide.2 ⟨fun h3 => ?_, fun h3 => by rw [h3]⟩
      rw [← List.take_append_drop k1.length ps, ← List.take_append_drop k1.length qs, h2, h3]
    · have h4 : ps ≠ qs := fun h5 => h2 (by rw [h5])
      simp [h2, h4]
  · refine run_ckStruct h.und e 9999 _ w ?_
    rw [hfs]
    intro f hf
    rcases List.mem_cons.1 hf with rfl | hf
    · refine ⟨hne, _, hpart ps w hp, ?_⟩
      rw [ht]
      refine run_ckStruct h.unda e 9998 _ w (ck_ints e 9997 _ w _ k1 (ps.take k1.length) 0 (by rw [List.length_take]; simp at hp; omega) h.fieldsa (hgeta _))
    · exact ck_ints e 9998 _ w fs k2 (ps.drop k1.length) k1.length (by simp at hp ⊢; omega) hF (hget ps hp) f hf
theorem sameBits_ints (n : Nat) (l : List (IntKind × Int)) : Instr.sameBits (n + 1) (.agg (l.map (fun p => Value.int p.1 p.2)).toArray) (.agg (l.map (fun p => Value.int p.1 p.2)).toArray) = true := by
  simp only [Instr.sameBits, beq_self_eq_true, Bool.true_and]
  rw [List.all_eq_true]
  rintro ⟨x, y⟩ hxy
  have : x = y := by
    simp only [List.zip_eq_zipWith] at hxy
    obtain ⟨i, hi⟩ := List.getElem?_of_mem hxy
    rw [List.getElem?_zipWith] at hi
    split at hi
    · rename_i u v hu hv; rw [hu] at hv; injection hv with hv; injection hi with hi; injection hi with h1 h2; rw [← h1, ← h2, hv]
    · cases hi
  subst this
  have hm := (List.of_mem_zip hxy).1
  simp only [List.mem_map] at hm
  obtain ⟨p, _, rfl⟩ := hm
  simp [Instr.sameBits]
theorem FlatK.key {P : Program} {t : TypeId} {ks : List IntKind} (h : FlatK P t ks) {κ : Type} [DecidableEq κ] (f : κ → List Int) (hl : ∀ a, (f a).length = ks.length) (hi : ∀ a b, f a = f b → a = b) : KeyT P t (fun a => encI ks (f a)) where
  now l i a D hD hne hl := by
    obtain ⟨fs, hu⟩ := h.und
    rw [hu] at hD; injection hD with hD; subst hD
    cases l with
    | nil => exact absurd rfl hne
    | cons e l => simp [Instr.findNow, encI, Instr.sameNow]
  und := by obtain ⟨fs, hu⟩ := h.und; exact ⟨_, hu⟩
  eq a b w := by
    have := h.eq (f a) (f b) w (hl a) (hl b)
    show (Op.equalIn 10000 t _ _).run P w = _
    rw [this]
    congr 1
    exact decide_eq_decide.2 ⟨hi a b, fun h => by rw [h]⟩
  ck e a w := h.ck e (f a) w (hl a)
  sb a := sameBits_ints 9999 _
section
variable {X : Ctx} {L : AL} {B : BL} {ops : Array Oper} {K : Act → World → Prop} {r : Pl} {k : Kd}
  {x y z : Operand} {d : Nat} {t t2 t' : TypeId} {pos : String} {af : Array Edge} {g : Option (Nat × Bool)}
theorem Ops.eqK {ks : List IntKind} (ps qs : List Int) (hg : gd ops L g = some true) (hx : ev L x = some (.ct (.fr (aggT (kc ks ps))))) (hy : ev L y = some (.ct (.fr (aggT (kc ks qs))))) (h1 : ps.length = ks.length) (h2 : qs.length = ks.length) (hE : FlatK X.P t ks) (hG : X.P.eqGuardType X.P.depth t = false) (hn : Nat.blt d X.n = true)
    (h : Ops X ops r ((d, .ct (.ex (.bool (decide (ps = qs))))) :: L) B K) : Ops X ops (.cons ⟨some d, .binOp .eql t x y t2, t', pos, af, g⟩ k r) L B K :=
  XW (s := .ct (.ex (.bool (decide (ps = qs))))) hg rfl hn (fun a ρ w hI => ⟨_, fun w' _ => by
    obtain ⟨us, e1, c1⟩ := hI.ev hx
    obtain ⟨vs, e2, c2⟩ := hI.ev hy
    have d1 := kc_cells h1 c1
    have d2 := kc_cells h2 c2
    subst d1; subst d2
    show (do pure (Next.value (← (do eqGuard .eql t x y (a.eval x) (a.eval y); binOp .eql t (a.eval x) (a.eval y) : Sem Value))) : Sem Next).run X.P w' = _
    rw [e1, e2]
    refine X9 ?_
    simp only [Sem.run_bind, run_eqGuard_agg w' _ t x y _ _ hG, Result.andThen_ok]
    have := hE.eq ps qs w' h1 h2
    unfold Go.Own.encI at this
    rw [run_eql_struct, this]; rfl, rfl⟩) h
end
end Go.Own
namespace Go.Proofs.YtlkdkbdgnjcopaaGreat
open Go.Own Go.Limbs
attribute [local irreducible] St Ops Go.Own.Fin Ok OkB OkN OkT OkL OkF
def tk0 : Tk := ⟨0, 0, 0⟩
instance : Inhabited Tk := ⟨tk0⟩
def ik0 : Ik := ⟨0, 0, 0⟩
abbrev wr0 : Wr := (0, 0)
abbrev wrCs (x : Wr) : List CT := [adrF x.1, adrF x.2]
abbrev wrC (x : Wr) : CT := .fr (aggT (wrCs x))
def ikI (x : Ik) : List Int := [x.va, x.ru, x.nu]
def wrI (x : Wr) : List Int := [(x.1.val : Int), (x.2.val : Int)]
theorem lWire : LdN Tryz.prog 37 2 := LdN.of _ Tryz.underlying37 rfl (by kernel_rfl)
theorem szWire : (Tryz.prog.info? 37).map (·.size) = some 2 := by kernel_rfl
theorem zvWire : (Tryz.prog.info? 37).map (·.zero) = some (some (.agg #[.int .u32 0, .int .u32 0])) := by kernel_rfl
theorem bWire : bInfo Tryz.prog 37 = some (.agg #[.int .u32 0, .int .u32 0], [(0, some 1), (1, some 1)]) := by kernel_rfl
theorem tkI_inj (x y : Tk) (h : tkI x = tkI y) : x = y := by
  obtain ⟨a1, a2, a3⟩ := x; obtain ⟨b1, b2, b3⟩ := y
  simp only [tkI, List.cons.injEq, and_true, Int.ofNat_inj, Fin.val_inj] at h
  obtain ⟨h1, h2, h3⟩ := h; rw [h1, h2, h3]
theorem wrI_inj (x y : Wr) (h : wrI x = wrI y) : x = y := by
  obtain ⟨a1, a2⟩ := x; obtain ⟨b1, b2⟩ := y
  simp only [wrI, List.cons.injEq, and_true, Int.ofNat_inj, Fin.val_inj] at h
  obtain ⟨h1, h2⟩ := h; rw [h1, h2]
theorem tk_len (x : Tk) : (tkCs x).length = 3 := rfl
abbrev tksC (l : List Tk) : CT := .fr (sliceT 3 (l.map tkCs))
def tks (l : List Tk) : List CT := (l.map tkCs).flatten
theorem tks_frozen (e : Nat) (l : List Tk) : (Ent.row e 3 (tks l)).frozen (sliceT 3 (l.map tkCs)) :=
  ⟨_, rfl, fun e he => by obtain ⟨m, _, rfl⟩ := List.mem_map.mp he; rfl, by decide, rfl⟩
theorem tks_at {l : List Tk} {j : Int} (h0 : 0 ≤ j) (h : j < (l.length : Int)) : (l.map tkCs)[j.toNat]? = some (tkCs (l.getD j.toNat tk0)) := by
  have : j.toNat < l.length := by omega
  simp [List.getElem?_map, List.getElem?_eq_getElem this, List.getD_eq_getElem?_getD]
theorem Z6 (l : List Tk) : (tks l).length = l.length * 3 := el_len tk_len l
theorem tks_app (l m : List Tk) : tks (l ++ m) = tks l ++ tks m := by simp [tks]
theorem tks_snoc (l : List Tk) (r : Tk) : tks (l ++ [r]) = tks l ++ tkCs r := by simp [tks]
theorem tks_take (l : List Tk) (i : Nat) : (tks l).take (i * 3) = tks (l.take i) := el_take tk_len l i
theorem sTks : SlcT Tryz.prog 82 86 3 24 (.agg #[.int .i64 0, .int .u32 0, .int .i64 0]) := SlcT.of Tryz.underlying82 (by kernel_rfl) rfl (by decide)
theorem eTk : EqS Tryz.prog 86 [.i64, .u32, .i64] := ⟨by kernel_rfl, by kernel_rfl, by kernel_rfl, by kernel_rfl⟩
theorem tk_inj {x y : Tk} : (tkI x = tkI y) ↔ x = y := ⟨tkI_inj _ _, fun h => by rw [h]⟩
theorem keyTk : KeyT Tryz.prog 86 (fun x : Tk => Go.Own.encI [.i64, .u32, .i64] (tkI x)) := eTk.flat.key tkI (fun _ => rfl) (fun _ _ => tk_inj.1)
section
variable {X : Ctx} {L : AL} {B : BL} {ops : Array Oper} {K : Act → World → Prop} {r : Pl} {k : Kd}
  {x y z : Operand} {d : Nat} {t t2 t' : TypeId} {pos : String} {af : Array Edge} {g : Option (Nat × Bool)}
theorem eqTk (p q : Tk) (hg : gd ops L g = some true) (hx : ev L x = some (.ct (.fr (aggT (tkCs p))))) (hy : ev L y = some (.ct (.fr (aggT (tkCs q))))) (hP : X.P = Tryz.prog) (hn : Nat.blt d X.n = true)
    (h : Ops X ops r ((d, .ct (boolC (decide (p = q)))) :: L) B K) : Ops X ops (.cons ⟨some d, .binOp .eql 86 x y t2, t', pos, af, g⟩ k r) L B K :=
  Ops.eqS (ks := [.i64, .u32, .i64]) (tkI p) (tkI q) hg hx hy rfl rfl (hP ▸ eTk) hn (by rw [decide_eq_decide.2 tk_inj]; exact h)
theorem neTk (p q : Tk) (hg : gd ops L g = some true) (hx : ev L x = some (.ct (.fr (aggT (tkCs p))))) (hy : ev L y = some (.ct (.fr (aggT (tkCs q))))) (hP : X.P = Tryz.prog) (hn : Nat.blt d X.n = true)
    (h : Ops X ops r ((d, .ct (boolC (decide (¬ p = q)))) :: L) B K) : Ops X ops (.cons ⟨some d, .binOp .neq 86 x y t2, t', pos, af, g⟩ k r) L B K :=
  Ops.neS (ks := [.i64, .u32, .i64]) (tkI p) (tkI q) hg hx hy rfl rfl (hP ▸ eTk) hn (by rw [decide_eq_decide.2 tk_inj, ← decide_not]; exact h)
end
theorem ik_len (x : Ik) : (ikCs x).length = 3 := rfl
abbrev iksC (l : List Ik) : CT := .fr (sliceT 3 (l.map ikCs))
def iks (l : List Ik) : List CT := (l.map ikCs).flatten
theorem iks_frozen (e : Nat) (l : List Ik) : (Ent.row e 3 (iks l)).frozen (sliceT 3 (l.map ikCs)) :=
  ⟨_, rfl, fun e he => by obtain ⟨m, _, rfl⟩ := List.mem_map.mp he; rfl, by decide, rfl⟩
theorem iks_len (l : List Ik) : (iks l).length = l.length * 3 := el_len ik_len l
theorem iks_snoc (l : List Ik) (r : Ik) : iks (l ++ [r]) = iks l ++ ikCs r := by simp [iks]
theorem sIks : SlcT Tryz.prog 67 124 3 24 (.agg #[.int .i64 0, .int .i64 0, .int .i64 0]) := SlcT.of Tryz.underlying67 (by kernel_rfl) rfl (by decide)
section
variable {X : Ctx} {L : AL} {B : BL} {ops : Array Oper} {K : Act → World → Prop} {r : Pl} {k : Kd}
  {x y z : Operand} {d : Nat} {t t2 t' : TypeId} {pos : String} {af : Array Edge} {g : Option (Nat × Bool)}
end
theorem wr_len (x : Wr) : (wrCs x).length = 2 := rfl
abbrev wrsC (l : List Wr) : CT := .fr (sliceT 2 (l.map wrCs))
def wrs (l : List Wr) : List CT := (l.map wrCs).flatten
theorem wrs_frozen (e : Nat) (l : List Wr) : (Ent.row e 2 (wrs l)).frozen (sliceT 2 (l.map wrCs)) :=
  ⟨_, rfl, fun e he => by obtain ⟨m, _, rfl⟩ := List.mem_map.mp he; rfl, by decide, rfl⟩
theorem wrs_at {l : List Wr} {j : Int} (h0 : 0 ≤ j) (h : j < (l.length : Int)) : (l.map wrCs)[j.toNat]? = some (wrCs (l.getD j.toNat wr0)) := by
  have : j.toNat < l.length := by omega
  simp [List.getElem?_map, List.getElem?_eq_getElem this, List.getD_eq_getElem?_getD]
theorem wrs_len (l : List Wr) : (wrs l).length = l.length * 2 := el_len wr_len l
theorem wrs_snoc (l : List Wr) (r : Wr) : wrs (l ++ [r]) = wrs l ++ wrCs r := by simp [wrs]
theorem sWrs : SlcT Tryz.prog 64 37 2 8 (.agg #[.int .u32 0, .int .u32 0]) := SlcT.of Tryz.underlying64 (by kernel_rfl) rfl (by decide)
theorem eWr : EqS Tryz.prog 37 [.u32, .u32] := ⟨by kernel_rfl, by kernel_rfl, by kernel_rfl, by kernel_rfl⟩
theorem wr_inj {x y : Wr} : (wrI x = wrI y) ↔ x = y := ⟨wrI_inj _ _, fun h => by rw [h]⟩
section
variable {X : Ctx} {L : AL} {B : BL} {ops : Array Oper} {K : Act → World → Prop} {r : Pl} {k : Kd}
  {x y z : Operand} {d : Nat} {t t2 t' : TypeId} {pos : String} {af : Array Edge} {g : Option (Nat × Bool)}
theorem eqWr (p q : Wr) (hg : gd ops L g = some true) (hx : ev L x = some (.ct (.fr (aggT (wrCs p))))) (hy : ev L y = some (.ct (.fr (aggT (wrCs q))))) (hP : X.P = Tryz.prog) (hn : Nat.blt d X.n = true)
    (h : Ops X ops r ((d, .ct (boolC (decide (p = q)))) :: L) B K) : Ops X ops (.cons ⟨some d, .binOp .eql 37 x y t2, t', pos, af, g⟩ k r) L B K :=
  Ops.eqS (ks := [.u32, .u32]) (wrI p) (wrI q) hg hx hy rfl rfl (hP ▸ eWr) hn (by rw [decide_eq_decide.2 wr_inj]; exact h)
end
theorem goCompact_Tk : InGo Tryz.prog 125 := InGo.of Tryz.func125 (by kernel_rfl) (by kernel_rfl)
set_option maxHeartbeats 4000000 in
theorem Compact_Tk_ok (l : List Tk) (hl : l.length ≤ 100000) : OkT Tryz.prog 125 86 3 (tks l) [] (tks (dd l)) := by
  refine OkT.enter Tryz.func125 rfl _ Tryz.ntmps125 rfl ?_
  intro S w h0
  (refine Qw (Qx fun K hK => ?_); refine Qv rfl rfl rfl ?_; refine Qj (hK _ _ (Qz (Qw (Qw ?_)))); clear hK K; refine Qx (fun K hK => ?_); refine Qq rfl rfl rfl ?_)
  refine Yv l.length rfl rfl rfl (by decide) (Z6 l) (by with_reducible exact sTks.und) rfl ?_
  (refine Qk ilss rfl rfl rfl rfl ?_; refine Qj (hK _ _ (Qz ?_)); clear hK K)
  refine Q2 rfl (fun h => ?_) (fun h => ?_)
  · rw [dd_small (l := l) (by omega)]
    (refine Qw (Qx fun K hK => ?_); refine Qq rfl rfl rfl ?_; refine Qv rfl rfl rfl ?_; refine Qj (hK _ _ (Qz (Q0 (QY ?_)))); clear hK K)
    refine Fin.retT rfl rfl rfl
  (refine Q1 (Qz (Qw (Qw (Qx fun K hK => ?_)))); refine Qv rfl rfl rfl ?_; refine Qj (hK _ _ (Qz (Q4 ?_))); clear hK K)
  refine Xz (α := Nat) (fun i => i + 1 ≤ l.length ∧ dd (l.take (i + 1)) = l.take (i + 1))
    (fun i => [(0, .own 0), (3, .ct (intC (i + 1)))]) (fun _ => [(0, .row 86 3 (tks l))]) (fun i => l.length - i) 0 ⟨by omega, dd_small (by rw [List.length_take]; omega)⟩ (by exact Qu rfl ⟨rfl, rfl, trivial⟩) ?_
  rintro i ⟨hi, hd⟩
  try dsimp only at hi hd
  try dsimp only
  (refine Qw (Qw (Qx fun K hK => ?_)); refine Qq rfl rfl rfl ?_; refine Qq rfl rfl rfl ?_)
  refine Yv l.length rfl rfl rfl (by decide) (Z6 l) (by with_reducible exact sTks.und) rfl ?_
  (refine Qk ilss rfl rfl rfl rfl ?_; refine Qj (hK _ _ (Qz ?_)); clear hK K)
  refine Q2 rfl (fun h => ?_) (fun h => ?_)
  rotate_left
  · have e : dd l = l := by
      have := hd
      rw [List.take_of_length_le (by omega)] at this
      exact this
    rw [e]
    (refine Qn (Qz (Qw (Qx fun K hK => ?_))); refine Qq rfl rfl rfl ?_; refine Qv rfl rfl rfl ?_; refine Qj (hK _ _ (Qz (Q0 ?_))); clear hK K)
    refine Fin.retT rfl rfl rfl
  (refine Q1 (Qz (Qw (Q4 (Qw ?_)))))
  refine Xu (by with_reducible exact mixed) 10 (.p 0 (.p 1 (.p 2 (.p 4 (.p 5 (.p 6 (.p 7 (.f 3 (.f 8 (.p 9 .done)))))))))) (by kernel_rfl) (fun K hK => ?_)
  (refine Qq rfl rfl rfl ?_; refine Qq rfl rfl rfl ?_)
  refine Xi l.length rfl rfl rfl (Z6 l) rfl (by with_reducible exact sTks) (by omega) (by omega) rfl ?_
  (refine Qq rfl rfl rfl ?_; refine Qq rfl rfl rfl ?_; refine Qk (isub (by omega) (by omega)) rfl rfl rfl rfl ?_)
  refine Xi l.length rfl rfl rfl (Z6 l) rfl (by with_reducible exact sTks) (by omega) (by omega) rfl ?_
  skip
  refine ldE tkCs tk0 tk_len rfl rfl rfl rfl rfl (by omega) (by with_reducible exact Z4) rfl ?_
  refine ldE tkCs tk0 tk_len rfl rfl rfl rfl rfl (by omega) (by with_reducible exact Z4) rfl ?_
  rw [show ((i : Int) + 1).toNat = i + 1 by omega, show ((i : Int) + 1 - 1).toNat = i by omega]
  generalize hx : l.getD i tk0 = x
  generalize hy : l.getD (i + 1) tk0 = y
  refine eqTk y x rfl rfl rfl rfl rfl ?_
  (refine Qj (hK _ _ (Qz ?_)); clear hK K)
  have hs := dd_step (l := l) (z := tk0) (p := i + 1) (by omega) (by omega)
  rw [show i + 1 - 1 = i by omega, hx, hy] at hs
  refine Q2 rfl (fun he => ?_) (fun he => ?_)
  rotate_left
  · (refine Q1 (Qz (Qx fun K hK => ?_)); refine Qq rfl rfl rfl ?_; refine Qk (iadd (by omega) (by omega)) rfl rfl rfl rfl ?_; refine Qv rfl rfl rfl ?_; refine Qj (hK _ _ (Q3 ?_)); clear hK K)
    refine Q7 (i + 1) (by omega) ⟨by omega, ?_⟩ (by exact Qu rfl ⟨rfl, by simp only [Int.natCast_add]; rfl, trivial⟩)
    rw [hs, if_neg he, hd, List.take_add_one (i := i + 1), List.getElem?_eq_getElem (by omega), ← hy, List.getD_eq_getElem?_getD, List.getElem?_eq_getElem (by omega)]; rfl
  rw [if_pos he, hd] at hs
  refine St.nameS 0 0 l.length rfl rfl (Z6 l) (by omega) (by decide) (fun gb c hc1 hc2 => ?_)
  (refine Qw (Qx fun K hK => ?_); refine Qq rfl rfl rfl ?_; refine Qq rfl rfl rfl ?_)
  refine Ops.cutKl (i + 1) rfl rfl rfl (by omega) sTks (by omega) rfl ?_
  rw [if_neg (show ¬ c = i + 1 by omega), Nat.zero_add]
  (refine Qv rfl rfl rfl ?_; refine Qj (hK _ _ (Qz (Qw (Qw ?_)))); clear hK K; refine Qx (fun K hK => ?_); refine Qv rfl rfl rfl ?_; refine Qj (hK _ _ (Qz (Q4 ?_))); clear hK K)
  refine Xz (α := Nat) (fun j => i + 2 + j ≤ l.length ∧ (dd (l.take (i + 2 + j))).length < i + 2 + j)
    (fun j => [(0, .ct (.ex (kh gb 0 l.length c))), (3, .ct (intC (dd (l.take (i + 2 + j))).length)), (4, .ct (.ex (kh gb ((i + 1) * 3) (l.length - (i + 1)) (c - (i + 1))))), (5, .ct (intC (j + 1)))])
    (fun j => [(0, .rowx (kh gb 0 l.length c) 86 3 (tks (dd (l.take (i + 2 + j)) ++ l.drop (dd (l.take (i + 2 + j))).length)))]) (fun j => l.length - j) 0
    ⟨by omega, by rw [Nat.add_zero, hs, List.length_take]; omega⟩ (by
      rw [Nat.add_zero, hs, List.length_take, Nat.min_eq_left hi, List.take_append_drop]
      exact Qu rfl ⟨rfl, rfl, rfl, rfl, trivial⟩) ?_
  clear hs
  rintro j ⟨hj, hD⟩
  try dsimp only at hj hD
  try dsimp only
  have hs := dd_step (l := l) (z := tk0) (p := i + 2 + j) (by omega)
  generalize hDD : dd (l.take (i + 2 + j)) = D at hs hD ⊢
  have hrl : (D ++ l.drop D.length).length = l.length := by rw [List.length_append, List.length_drop]; omega
  have hat : ∀ q, D.length ≤ q → (D ++ l.drop D.length).getD q tk0 = l.getD q tk0 := fun q hq => row_at D l q tk0 hq
  (refine Qw (Qw (Qx fun K hK => ?_)); refine Qq rfl rfl rfl ?_; refine Qq rfl rfl rfl ?_)
  refine Ops.lenKv rfl rfl sTks.und rfl ?_
  (refine Qk ilss rfl rfl rfl rfl ?_; refine Qj (hK _ _ (Qz ?_)); clear hK K)
  refine Q2 rfl (fun h2 => ?_) (fun h2 => ?_)
  · (refine Q1 (Qz (Qw (Q4 (Qw ?_)))))
    refine Xu (by with_reducible exact mixed) 10 (.p 0 (.p 1 (.p 2 (.p 4 (.p 5 (.p 6 (.p 7 (.f 3 (.f 8 (.p 9 .done)))))))))) (by kernel_rfl) (fun K hK => ?_)
    (refine Qq rfl rfl rfl ?_; refine Qq rfl rfl rfl ?_)
    refine YQ 0 (i + 1) rfl rfl rfl rfl sTks (by omega) (by omega) rfl ?_
    (refine Qq rfl rfl rfl ?_; refine Qq rfl rfl rfl ?_; refine Qk (isub (by omega) (by omega)) rfl rfl rfl rfl ?_)
    refine YQ 0 (i + 1) rfl rfl rfl rfl sTks (by omega) (by omega) rfl ?_
    skip
    refine ldE tkCs tk0 tk_len rfl rfl rfl rfl rfl (by omega) (by with_reducible exact Z4) rfl ?_
    refine ldE tkCs tk0 tk_len rfl rfl rfl rfl rfl (by omega) (by with_reducible exact Z4) rfl ?_
    rw [show i + 1 + ((j : Int) + 1).toNat = i + 2 + j by omega, show i + 1 + ((j : Int) + 1 - 1).toNat = i + 2 + j - 1 by omega, hat _ (by omega), hat _ (by omega)]
    have hs := hs (by omega)
    generalize hx2 : l.getD (i + 2 + j - 1) tk0 = x2 at hs ⊢
    generalize hy2 : l.getD (i + 2 + j) tk0 = y2 at hs ⊢
    refine neTk y2 x2 rfl rfl rfl rfl rfl ?_
    (refine Qj (hK _ _ (Qz ?_)); clear hK K)
    refine Q2 rfl (fun he2 => ?_) (fun he2 => ?_)
    · rw [if_neg he2] at hs
      (refine Qw (Qx fun K hK => ?_); refine Qq rfl rfl rfl ?_; refine Qq rfl rfl rfl ?_; refine Qq rfl rfl rfl ?_; refine Qq rfl rfl rfl ?_)
      refine YQ 0 (i + 1) rfl rfl rfl rfl sTks (by omega) (by omega) rfl ?_
      refine ldE tkCs tk0 tk_len rfl rfl rfl rfl rfl (by omega) (by with_reducible exact Z4) rfl ?_
      rw [show i + 1 + ((j : Int) + 1).toNat = i + 2 + j by omega, hat _ (by omega), hy2]
      refine YQ 0 0 rfl rfl rfl rfl sTks (by omega) (by omega) rfl ?_
      rw [Nat.zero_add, show ((D.length : Int)).toNat = D.length by omega]
      refine stEX tkCs y2 tk_len rfl rfl rfl rfl rfl (by omega) (by with_reducible exact szTrace) ?_
      rw [row_set D l y2 (by omega)]
      (refine Qj (hK _ _ (Qz ?_)); clear hK K; refine Qx (fun K hK => ?_); refine Qq rfl rfl rfl ?_; refine Qk (iadd (by omega) (by omega)) rfl rfl rfl rfl ?_; refine Qv rfl rfl rfl ?_; refine Qj (hK _ _ (Qz ?_)); clear hK K; refine Qx (fun K hK => ?_); refine Qq rfl rfl rfl ?_; refine Qk (iadd (by omega) (by omega)) rfl rfl rfl rfl ?_; refine Qv rfl rfl rfl ?_; refine Qj (hK _ _ (Q3 ?_)); clear hK K)
      refine Q7 (j + 1) (by omega) ⟨by omega, by show (dd (l.take (i + 2 + j + 1))).length < _; rw [hs, List.length_append]; show D.length + 1 < _; omega⟩ ?_
      rw [show i + 2 + (j + 1) = i + 2 + j + 1 by omega, hs, List.length_append]
      exact Qu rfl ⟨rfl, by simp only [Int.natCast_add]; rfl, rfl, by simp only [Int.natCast_add]; rfl, trivial⟩
    · rw [if_pos (Decidable.not_not.1 he2)] at hs
      (refine Q1 (Qz (Qx fun K hK => ?_)); refine Qq rfl rfl rfl ?_; refine Qk (iadd (by omega) (by omega)) rfl rfl rfl rfl ?_; refine Qv rfl rfl rfl ?_; refine Qj (hK _ _ (Q3 ?_)); clear hK K)
      refine Q7 (j + 1) (by omega) ⟨by omega, by show (dd (l.take (i + 2 + j + 1))).length < _; rw [hs]; omega⟩ ?_
      rw [show i + 2 + (j + 1) = i + 2 + j + 1 by omega, hs]
      exact Qu rfl ⟨rfl, rfl, rfl, by simp only [Int.natCast_add]; rfl, trivial⟩
  · have e : dd l = D := by rw [← hDD, List.take_of_length_le (by omega)]
    rw [e]
    (refine Qn (Qz (Qw (Qx fun K hK => ?_))); refine Qq rfl rfl rfl ?_; refine Qq rfl rfl rfl ?_)
    refine Ops.cutKl D.length rfl rfl rfl rfl sTks (by omega) rfl ?_
    skip
    refine Ops.cutOff 0 D.length rfl (by show (tks _).length = _; rw [Z6, hrl]) (by decide) (by omega) (by show (tks _).take _ = tks D; rw [tks_take, List.take_left]) ?_
    refine Ops.clearK 0 rfl rfl (by split <;> omega) rfl (Z6 D) (by omega) sTks (by decide) ?_
    (refine Qj (hK _ _ (Qz (Qw ?_))); clear hK K; refine Qx (fun K hK => ?_); refine Qq rfl rfl rfl ?_; refine Qq rfl rfl rfl ?_)
    refine Ops.cutKh D.length rfl rfl rfl rfl sTks (by omega) rfl ?_
    (refine Qv rfl rfl rfl ?_; refine Qj (hK _ _ (Qz (Q0 (Q8 (QY (QY (Q8 (QY ?_)))))))); clear hK K)
    refine Fin.link 2 0 rfl rfl ?_
    refine Fin.retT rfl rfl rfl
end Go.Proofs.YtlkdkbdgnjcopaaGreat
namespace Go.Proofs.YtlkdkbdgnjcopaaGreat
open Go.Own Go.Limbs
theorem fTk0 : fldInfo Tryz.prog 86 0 = some (0, some 1) := by kernel_rfl
theorem fTk1 : fldInfo Tryz.prog 86 1 = some (1, some 1) := by kernel_rfl
theorem fTk2 : fldInfo Tryz.prog 86 2 = some (2, some 1) := by kernel_rfl
theorem fWr0 : fldInfo Tryz.prog 37 0 = some (0, some 1) := by kernel_rfl
theorem fWr1 : fldInfo Tryz.prog 37 1 = some (1, some 1) := by kernel_rfl
end Go.Proofs.YtlkdkbdgnjcopaaGreat
namespace Go.Proofs.YtlkdkbdgnjcopaaGreat
open Go.Shelf
def laySortT_ren : Go.Shelf.Ren := ⟨fun | 6 => 122 | 15 => 118 | 14 => 159 | 28 => 155 | 29 => 156 | 20 => 186 | 21 => 187 | 22 => 188 | 23 => 189 | 24 => 190 | 25 => 191 | 26 => 192 | 27 => 193 | 46 => 199 | 47 => 182 | 48 => 183 | 49 => 200 | 50 => 201 | 57 => 203 | n => n, fun | 22 => 82 | 24 => 86 | 25 => 139 | 3 => 3 | 39 => 172 | 0 => 0 | 53 => 26 | 55 => 153 | 4 => 4 | 46 => 201 | 45 => 200 | 50 => 205 | 5 => 5 | 9 => 9 | 66 => 227 | 70 => 231 | 76 => 240 | 77 => 241 | n => n, fun | n => n⟩
theorem laySortT : Go.Proofs.SlLaysF0.n6 Tryz.prog laySortT_ren := {
  mixed := by kernel_rfl
  f6 := ⟨Tryz.f122.name, by decide, Tryz.func122.trans (congrArg some (by kernel_rfl))⟩
  f14 := ⟨Tryz.f159.name, by decide, Tryz.func159.trans (congrArg some (by kernel_rfl))⟩
  f15 := Tryz.func118.trans (congrArg some (by kernel_rfl))
  f20 := ⟨Tryz.f186.name, by decide, Tryz.func186.trans (congrArg some (by kernel_rfl))⟩
  f21 := ⟨Tryz.f187.name, by decide, Tryz.func187.trans (congrArg some (by kernel_rfl))⟩
  f22 := ⟨Tryz.f188.name, by decide, Tryz.func188.trans (congrArg some (by kernel_rfl))⟩
  f23 := ⟨Tryz.f189.name, by decide, Tryz.func189.trans (congrArg some (by kernel_rfl))⟩
  f24 := ⟨Tryz.f190.name, by decide, Tryz.func190.trans (congrArg some (by kernel_rfl))⟩
  f25 := ⟨Tryz.f191.name, by decide, Tryz.func191.trans (congrArg some (by kernel_rfl))⟩
  f26 := ⟨Tryz.f192.name, by decide, Tryz.func192.trans (congrArg some (by kernel_rfl))⟩
  f27 := ⟨Tryz.f193.name, by decide, Tryz.func193.trans (congrArg some (by kernel_rfl))⟩
  f28 := Tryz.func155.trans (congrArg some (by kernel_rfl))
  f29 := Tryz.func156.trans (congrArg some (by kernel_rfl))
  f46 := ⟨Tryz.f199.name, by decide, Tryz.func199.trans (congrArg some (by kernel_rfl))⟩
  f47 := Tryz.func182.trans (congrArg some (by kernel_rfl))
  f48 := Tryz.func183.trans (congrArg some (by kernel_rfl))
  f49 := ⟨Tryz.f200.name, by decide, Tryz.func200.trans (congrArg some (by kernel_rfl))⟩
  f50 := ⟨Tryz.f201.name, by decide, Tryz.func201.trans (congrArg some (by kernel_rfl))⟩
  f57 := ⟨Tryz.f203.name, by decide, Tryz.func203.trans (congrArg some (by kernel_rfl))⟩
  t0 := Tryz.underlying0
  a0 := Tryz.isAgg0
  z0 := Tryz.sizeOf0
  v0 := Tryz.zeroValue0
  t3 := Tryz.underlying3
  a3 := Tryz.isAgg3
  z3 := Tryz.sizeOf3
  v3 := Tryz.zeroValue3
  t4 := Tryz.underlying4
  a4 := Tryz.isAgg4
  z4 := Tryz.sizeOf4
  v4 := Tryz.zeroValue4
  t5 := Tryz.underlying5
  a5 := Tryz.isAgg5
  z5 := Tryz.sizeOf5
  v5 := Tryz.zeroValue5
  t9 := Tryz.underlying9
  a9 := Tryz.isAgg9
  z9 := Tryz.sizeOf9
  v9 := Tryz.zeroValue9
  t22 := Tryz.underlying82
  a22 := Tryz.isAgg82
  z22 := Tryz.sizeOf82
  v22 := Tryz.zeroValue82
  t25 := Tryz.underlying139
  a25 := Tryz.isAgg139
  z25 := Tryz.sizeOf139
  v25 := Tryz.zeroValue139
  t39 := Tryz.underlying172
  a39 := Tryz.isAgg172
  z39 := Tryz.sizeOf172
  v39 := Tryz.zeroValue172
  t45 := Tryz.underlying200
  a45 := Tryz.isAgg200
  z45 := Tryz.sizeOf200
  v45 := Tryz.zeroValue200
  t46 := Tryz.underlying201
  a46 := Tryz.isAgg201
  z46 := Tryz.sizeOf201
  v46 := Tryz.zeroValue201
  t50 := Tryz.underlying205
  a50 := Tryz.isAgg205
  z50 := Tryz.sizeOf205
  v50 := Tryz.zeroValue205
  t53 := Tryz.underlying26
  a53 := Tryz.isAgg26
  z53 := Tryz.sizeOf26
  v53 := Tryz.zeroValue26
  t55 := Tryz.underlying153
  a55 := Tryz.isAgg153
  z55 := Tryz.sizeOf153
  v55 := Tryz.zeroValue153
  t66 := Tryz.underlying227
  a66 := Tryz.isAgg227
  z66 := Tryz.sizeOf227
  v66 := Tryz.zeroValue227
  t70 := Tryz.underlying231
  a70 := Tryz.isAgg231
  z70 := Tryz.sizeOf231
  v70 := Tryz.zeroValue231
  t76 := Tryz.underlying240
  a76 := Tryz.isAgg240
  z76 := Tryz.sizeOf240
  v76 := Tryz.zeroValue240
  t77 := Tryz.underlying241
  a77 := Tryz.isAgg241
  z77 := Tryz.sizeOf241
  v77 := Tryz.zeroValue241 }
end Go.Proofs.YtlkdkbdgnjcopaaGreat
namespace Go.Proofs.YtlkdkbdgnjcopaaGreat
open Go.Own Go.Limbs Go.Shelf
open Go.Sort hiding Ok
attribute [local irreducible] St Ops Go.Own.Fin Ok OkB OkN OkT OkL OkF
theorem goTr1 : InGo Tryz.prog 123 := InGo.of Tryz.func123 rfl (by decide)
theorem Tr1_ok (a b : Tk) : Ok Tryz.prog 123 [tkC a, tkC b] (intC (cmpT a b)) := by
  have e0 : cmpT a b = firstN [cmp3 a.va b.va, cmp3 a.ds.val b.ds.val, cmp3 a.pr b.pr] := by
    unfold cmpT tkI
    simp only [cmpL, firstN]
  rw [e0]
  clear e0
  have h1 := cm_ok a.va b.va
  have h2 := cmA_ok (a.ds.val : Int) (b.ds.val : Int)
  have h3 := cm_ok a.pr b.pr
  have hO := Or_ok [cmp3 a.va b.va, cmp3 a.ds.val b.ds.val, cmp3 a.pr b.pr] (by simp)
  generalize cmp3 a.va b.va = c1 at h1 hO ⊢
  generalize cmp3 (a.ds.val : Int) (b.ds.val : Int) = c2 at h2 hO ⊢
  generalize cmp3 a.pr b.pr = c3 at h3 hO ⊢
  refine Ok.enter Tryz.func123 rfl _ Tryz.ntmps123 rfl ?_
  intro S w
  (refine Qw (Qx fun K hK => ?_); refine Xk 0 rfl rfl rfl rfl rfl rfl rfl ?_; refine Xk 1 rfl rfl rfl rfl rfl rfl rfl ?_; refine Qv rfl rfl rfl ?_; refine Qj (hK _ _ (Qz (Qw ?_))); clear hK K)
  refine Xu (by with_reducible exact mixed) 18 (.p 0 (.p 2 (.p 5 (.p 7 (.p 10 (.p 12 (.f 1 (.f 3 (.f 6 (.f 8 (.f 11 (.f 13 (.m 4 (.m 9 (.m 14 (.m 15 (.m 16 (.p 17 .done)))))))))))))))))) (by kernel_rfl) (fun K hK => ?_)
  (refine QV rfl rfl rfl (by with_reducible first | exact fTk0 | exact fTk1 | exact fTk2 | exact fWr0 | exact fWr1 | exact X0 | exact XK | exact Xl | exact fStm1 | exact fCn0 | exact fCn1 | exact fCn2 | exact fCn3 | exact fCs0 | exact fCs1) rfl ?_; refine QV rfl rfl rfl (by with_reducible first | exact fTk0 | exact fTk1 | exact fTk2 | exact fWr0 | exact fWr1 | exact X0 | exact XK | exact Xl | exact fStm1 | exact fCn0 | exact fCn1 | exact fCn2 | exact fCn3 | exact fCs0 | exact fCs1) rfl ?_; refine QV rfl rfl rfl (by with_reducible first | exact fTk0 | exact fTk1 | exact fTk2 | exact fWr0 | exact fWr1 | exact X0 | exact XK | exact Xl | exact fStm1 | exact fCn0 | exact fCn1 | exact fCn2 | exact fCn3 | exact fCs0 | exact fCs1) rfl ?_; refine QV rfl rfl rfl (by with_reducible first | exact fTk0 | exact fTk1 | exact fTk2 | exact fWr0 | exact fWr1 | exact X0 | exact XK | exact Xl | exact fStm1 | exact fCn0 | exact fCn1 | exact fCn2 | exact fCn3 | exact fCs0 | exact fCs1) rfl ?_; refine QV rfl rfl rfl (by with_reducible first | exact fTk0 | exact fTk1 | exact fTk2 | exact fWr0 | exact fWr1 | exact X0 | exact XK | exact Xl | exact fStm1 | exact fCn0 | exact fCn1 | exact fCn2 | exact fCn3 | exact fCs0 | exact fCs1) rfl ?_; refine QV rfl rfl rfl (by with_reducible first | exact fTk0 | exact fTk1 | exact fTk2 | exact fWr0 | exact fWr1 | exact X0 | exact XK | exact Xl | exact fStm1 | exact fCn0 | exact fCn1 | exact fCn2 | exact fCn3 | exact fCs0 | exact fCs1) rfl ?_; refine QJ rfl rfl rfl rfl rfl (by with_reducible first | exact lInt | exact Q9 | exact Q6 | exact lRess) rfl ?_; refine QJ rfl rfl rfl rfl rfl (by with_reducible first | exact lInt | exact Q9 | exact Q6 | exact lRess) rfl ?_; refine QJ rfl rfl rfl rfl rfl (by with_reducible first | exact lInt | exact Q9 | exact Q6 | exact lRess) rfl ?_; refine QJ rfl rfl rfl rfl rfl (by with_reducible first | exact lInt | exact Q9 | exact Q6 | exact lRess) rfl ?_; refine QJ rfl rfl rfl rfl rfl (by with_reducible first | exact lInt | exact Q9 | exact Q6 | exact lRess) rfl ?_; refine QJ rfl rfl rfl rfl rfl (by with_reducible first | exact lInt | exact Q9 | exact Q6 | exact lRess) rfl ?_)
  refine QW gocm h1 rfl rfl rfl rfl ?_
  refine QW gocmA h2 rfl rfl rfl rfl ?_
  refine QW gocm h3 rfl rfl rfl rfl ?_
  refine Ops.litI [c1, c2, c3] rfl rfl (by with_reducible exact sInts) rfl ⟨rfl, rfl, rfl, rfl, rfl, rfl, trivial⟩ (by decide) rfl ?_
  refine QW goOr hO rfl rfl rfl rfl ?_
  (refine Qv rfl rfl rfl ?_; refine Qj (hK _ _ (Qz (Q0 ?_))); clear hK K)
  refine QU [_] rfl (QQ rfl QX) rfl rfl
def tkV (t : Tk) : List Value := [.int .i64 t.va, .int .u32 t.ds.val, .int .i64 t.pr]
abbrev cmpTV : CT := .ex (.func (.func 123) #[] #[])
theorem goSortT : InGo Tryz.prog 122 := InGo.of Tryz.func122 rfl (by decide)
theorem SortT_ok (l : List Tk) (hl : l.length < 4611686018427387904) : OkL Tryz.prog 122 86 3 (tks l) [cmpTV] unitC (tks (l.mergeSort fun x y => !(ltOf cmpT) y x)) :=
  sortFunc_L laySortT (enc := tkV) (k := 3) (cf := cmpT) (g := 123) (by decide) Tryz.isAgg86 Tryz.sizeOf86 (fun _ => rfl) (fun x v hv => by
    simp only [tkV, List.mem_cons, List.not_mem_nil, or_false] at hv
    rcases hv with rfl | rfl | rfl <;> rfl)
    ordT.swo ordT.tot goTr1 Tr1_ok 86 l hl
def trsF (l : List Rs) : List Tk := sd cmpT ((l.filter okR).map trOf)
theorem goTraces : InGo Tryz.prog 86 := InGo.of Tryz.func86 rfl (by decide)
set_option maxHeartbeats 4000000 in
theorem Traces_ok (l : List Rs) (hl : l.length ≤ 10000) : OkF Tryz.prog 86 [rssC l] 86 3 (tks (trsF l)) := by
  refine OkF.enter Tryz.func86 rfl _ Tryz.ntmps86 rfl ?_
  intro S w
  (refine Qw (Qx fun K hK => ?_); refine Qv rfl rfl rfl ?_; refine Qj (hK _ _ (Qz (Qw ?_))); clear hK K; refine Qx (fun K hK => ?_); refine Qv rfl rfl rfl ?_; refine Qj (hK _ _ (Qz (Qw (Qw ?_)))); clear hK K; refine Qx (fun K hK => ?_); refine Qq rfl rfl rfl ?_; refine Qd rfl rfl (by with_reducible exact sRes.und) (List.length_map ..) rfl ?_; refine Qq rfl rfl rfl ?_; refine Qj (hK _ _ (Qz (Q4 ?_))); clear hK K)
  refine Xf 3 0 86 3 rfl rfl rfl ?_
  refine Xz (α := Nat) (fun i => i ≤ l.length)
    (fun i => [(3, .own 0), (6, .ct (rssC l)), (7, .ct (intC l.length)), (8, .ct (intC i))]) (fun i => [(0, .row 86 3 (tks (((l.take i).filter okR).map trOf)))]) (fun i => l.length - i) 0 (Nat.zero_le _) (by exact Qu rfl ⟨rfl, rfl, rfl, rfl, trivial⟩) ?_
  intro i hi
  try dsimp only at hi
  try dsimp only
  (refine Qw (Qx fun K hK => ?_); refine Qk ilss rfl rfl rfl rfl ?_; refine Qj (hK _ _ (Qz (Qw ?_))); clear hK K)
  refine Q2 rfl (fun h => ?_) (fun h => ?_)
  · have e2 : (i : Int).toNat = i := Int.toNat_natCast i
    have hs := Zo okR (z := rs0) (i := i) (l := l) (by omega)
    have hfl := Yu okR l i
    (refine Q1 (Qz (Qw (Q4 (Qw (Qx fun K hK => ?_))))); refine Qg rfl rfl rfl (by with_reducible exact sRes) (by omega) (Xa (by omega) (by omega)) rfl ?_; refine XZ (n := 17) rfl rfl rfl (by with_reducible exact lRes) rfl rfl ?_; refine Qh 1 rfl rfl (by with_reducible exact zvRes) rfl rfl rfl ?_; refine Qe 17 rfl rfl rfl rfl rfl (by with_reducible exact szRes) rfl rfl ?_; refine Qj (hK _ _ (Qz (Qw ?_))); clear hK K; refine Qx (fun K hK => ?_); refine Qa (n := 17) rfl rfl rfl rfl rfl (by with_reducible exact lRes) rfl ?_)
    rw [e2]
    generalize l.getD i rs0 = c at hs
    skip
    refine QW goValidR (ValidR_ok c) rfl rfl rfl rfl ?_
    (refine Qj (hK _ _ (Qz ?_)); clear hK K)
    refine XX rfl (fun h2 => ?_) (fun h2 => ?_)
    · rw [if_pos h2] at hs
      (refine Qx (fun K hK => ?_); refine Qq rfl rfl rfl ?_; refine Qa (n := 17) rfl rfl rfl rfl rfl (by with_reducible exact lRes) rfl ?_)
      refine QW goTraceOf (TraceOf_ok c) rfl rfl rfl rfl ?_
      generalize (l.take i).filter okR = out at hs hfl ⊢
      refine X6 (n := 3) rfl rfl (by with_reducible exact sTks) rfl rfl (by decide) rfl ?_
      refine Qs (out.map trOf).length (tks (out.map trOf ++ [trOf c])) rfl rfl rfl rfl (by with_reducible exact sTks) (Z6 _) rfl (by rw [List.length_map]; omega) (by rw [List.length_map]; omega) (tks_snoc _ _) rfl ?_
      (refine Qv rfl rfl rfl ?_; refine Qj (hK _ _ (Qz ?_)); clear hK K; refine Qx (fun K hK => ?_); refine Qk (iadd (by omega) (by omega)) rfl rfl rfl rfl ?_; refine Qq rfl rfl rfl ?_; refine Qj (hK _ _ (Q3 ?_)); clear hK K)
      refine Qm 1 ?_
      refine Q7 (i + 1) (by omega) (by omega) (by rw [hs, List.map_append]; exact Qu rfl ⟨rfl, rfl, rfl, by simp only [Int.natCast_add]; rfl, trivial⟩)
    · rw [if_neg (by rw [h2]; decide)] at hs
      (refine Q1 (Qz (Qx fun K hK => ?_)); refine Qk (iadd (by omega) (by omega)) rfl rfl rfl rfl ?_; refine Qq rfl rfl rfl ?_; refine Qj (hK _ _ (Q3 ?_)); clear hK K)
      refine Qm 1 ?_
      refine Q7 (i + 1) (by omega) (by omega) (by rw [hs]; exact Qu rfl ⟨rfl, rfl, rfl, by simp only [Int.natCast_add]; rfl, trivial⟩)
  · have hi' : i = l.length := by omega
    rw [hi', List.take_length]
    have hfl : ((l.filter okR).map trOf).length ≤ l.length := by rw [List.length_map]; exact List.length_filter_le _ _
    unfold trsF
    generalize (l.filter okR).map trOf = m at hfl ⊢
    (refine Qn (Qz (Qw (Qx fun K hK => ?_))); refine Qq rfl rfl rfl ?_)
    refine Ops.callL goSortT (SortT_ok m (by omega)) rfl rfl rfl rfl rfl ?_
    (refine Qj (hK _ _ (Qz (Qw ?_))); clear hK K; refine Qx (fun K hK => ?_); refine Qq rfl rfl rfl ?_)
    refine Ops.callT goCompact_Tk (Compact_Tk_ok _ (by rw [List.length_mergeSort]; omega)) rfl rfl rfl rfl rfl ?_
    (refine Qv rfl rfl rfl ?_; refine Qj (hK _ _ (Qz (Q0 ?_))); clear hK K)
    refine Fin.retF rfl rfl rfl rfl
def ofF (l : List Rs) (t : Tk) : List Rs := (sd cmpR (l.filter okR)).filter fun r => decide (trOf r = t)
theorem goOf : InGo Tryz.prog 87 := InGo.of Tryz.func87 rfl (by decide)
set_option maxHeartbeats 4000000 in
theorem Of_ok (l : List Rs) (t : Tk) (hl : l.length ≤ 10000) : OkF Tryz.prog 87 [rssC l, tkC t] 35 17 (rss (ofF l t)) := by
  have hO := Order_ok l hl
  have hol : (sd cmpR (l.filter okR)).length ≤ 10000 := by
    have := sd_len cmpR (l.filter okR)
    have := List.length_filter_le okR l
    omega
  unfold ofF
  generalize sd cmpR (l.filter okR) = o at hO hol ⊢
  refine OkF.enter Tryz.func87 rfl _ Tryz.ntmps87 rfl ?_
  intro S w
  (refine Qw (Qx fun K hK => ?_); refine Xk 0 rfl rfl rfl rfl rfl rfl rfl ?_; refine Qv rfl rfl rfl ?_; refine Qj (hK _ _ (Qz (Qw ?_))); clear hK K; refine Qx (fun K hK => ?_); refine Qv rfl rfl rfl ?_; refine Qj (hK _ _ (Qz (Qw (Qw ?_)))); clear hK K; refine Qx (fun K hK => ?_); refine Qq rfl rfl rfl ?_)
  refine Z2 3 goOrder hO rfl rfl rfl rfl rfl rfl ?_
  refine ZJ 3 _ rfl (Zz _ _) X7 ?_
  (refine Qd rfl rfl (by with_reducible exact sRes.und) (List.length_map ..) rfl ?_; refine Qq rfl rfl rfl ?_; refine Qj (hK _ _ (Qz (Q4 ?_))); clear hK K)
  refine Xf 5 1 35 17 rfl rfl rfl ?_
  refine Xz (α := Nat) (fun i => i ≤ o.length)
    (fun i => [(3, .own 0), (5, .own 1), (9, .ct (rssC o)), (10, .ct (intC o.length)), (11, .ct (intC i))]) (fun i => [(1, .row 35 17 (rss ((o.take i).filter fun r => decide (trOf r = t)))), (0, .box 86 (tkCs t))]) (fun i => o.length - i) 0 (Nat.zero_le _) (by exact Qu rfl ⟨rfl, rfl, rfl, rfl, rfl, trivial⟩) ?_
  intro i hi
  try dsimp only at hi
  try dsimp only
  (refine Qw (Qx fun K hK => ?_); refine Qk ilss rfl rfl rfl rfl ?_; refine Qj (hK _ _ (Qz (Qw ?_))); clear hK K)
  refine Q2 rfl (fun h => ?_) (fun h => ?_)
  · have e2 : (i : Int).toNat = i := Int.toNat_natCast i
    have hs := Zo (fun r => decide (trOf r = t)) (z := rs0) (i := i) (l := o) (by omega)
    have hfl := Yu (fun r => decide (trOf r = t)) o i
    (refine Q1 (Qz (Qw (Q4 (Qw (Qx fun K hK => ?_))))); refine Qg rfl rfl rfl (by with_reducible exact sRes) (by omega) (Xa (by omega) (by omega)) rfl ?_; refine XZ (n := 17) rfl rfl rfl (by with_reducible exact lRes) rfl rfl ?_; refine Qh 2 rfl rfl (by with_reducible exact zvRes) rfl rfl rfl ?_; refine Qe 17 rfl rfl rfl rfl rfl (by with_reducible exact szRes) rfl rfl ?_; refine Qj (hK _ _ (Qz (Qw ?_))); clear hK K)
    rw [e2]
    generalize o.getD i rs0 = c at hs
    generalize (o.take i).filter (fun r => decide (trOf r = t)) = out at hs hfl ⊢
    refine Xu (by with_reducible exact mixed) 4 (.f 0 (.f 2 (.m 1 (.p 3 .done)))) (by kernel_rfl) (fun K hK => ?_)
    (refine Qa (n := 17) rfl rfl rfl rfl rfl (by with_reducible exact lRes) rfl ?_; refine Qa (n := 3) rfl rfl rfl rfl rfl (by with_reducible exact Z4) rfl ?_)
    refine QW goTraceOf (TraceOf_ok c) rfl rfl rfl rfl ?_
    refine eqTk (trOf c) t rfl rfl rfl rfl rfl ?_
    (refine Qj (hK _ _ (Qz ?_)); clear hK K)
    refine Q2 rfl (fun h2 => ?_) (fun h2 => ?_)
    · rw [if_pos (decide_eq_true h2)] at hs
      (refine Qx (fun K hK => ?_); refine Qq rfl rfl rfl ?_; refine Qa (n := 17) rfl rfl rfl rfl rfl (by with_reducible exact lRes) rfl ?_)
      refine X6 (n := 17) rfl rfl (by with_reducible exact sRes) rfl rfl (by decide) rfl ?_
      refine Qs out.length (rss (out ++ [c])) rfl rfl rfl rfl (by with_reducible exact sRes) (X1 out) rfl (by omega) (by omega) (ZK out c) rfl ?_
      (refine Qv rfl rfl rfl ?_; refine Qj (hK _ _ (Qz ?_)); clear hK K; refine Qx (fun K hK => ?_); refine Qk (iadd (by omega) (by omega)) rfl rfl rfl rfl ?_; refine Qq rfl rfl rfl ?_; refine Qj (hK _ _ (Q3 ?_)); clear hK K)
      refine Qm 2 ?_
      refine Q7 (i + 1) (by omega) (by omega) (by rw [hs]; exact Qu rfl ⟨rfl, rfl, rfl, rfl, by simp only [Int.natCast_add]; rfl, trivial⟩)
    · rw [if_neg (by rw [decide_eq_false h2]; decide)] at hs
      (refine Q1 (Qz (Qx fun K hK => ?_)); refine Qk (iadd (by omega) (by omega)) rfl rfl rfl rfl ?_; refine Qq rfl rfl rfl ?_; refine Qj (hK _ _ (Q3 ?_)); clear hK K)
      refine Qm 2 ?_
      refine Q7 (i + 1) (by omega) (by omega) (by rw [hs]; exact Qu rfl ⟨rfl, rfl, rfl, rfl, by simp only [Int.natCast_add]; rfl, trivial⟩)
  · have hi' : i = o.length := by omega
    rw [hi', List.take_length]
    (refine Qn (Qz (Qw (Qx fun K hK => ?_))); refine Qq rfl rfl rfl ?_; refine Qv rfl rfl rfl ?_; refine Qj (hK _ _ (Qz (Q0 ?_))); clear hK K)
    refine Fin.retF rfl rfl rfl rfl
end Go.Proofs.YtlkdkbdgnjcopaaGreat
namespace Go.Own
variable {P : Program} {n : Nat} {S : BSet} {w0 : World} {B0 : BL} {fx : List Nat} {ρ0 : Nat → Value} {α : Type} {J : α → Prop} {R : α → Sl} {B1 : α → BL} {L : AL} {B : BL}
theorem Is.dropsB {X : Ctx} {a : Act} {ρ : Nat → Value} {w : World} {v : Value} {c : CT} : ∀ (ds : List Nat) {B : BL}, (ds.all fun i => noFix X i) = true → Is X L B a ρ w → c.p (Sof X B ρ) w v → Is X L (ds.foldl bdel B) a ρ w ∧ c.p (Sof X (ds.foldl bdel B) ρ) w v
  | [], _, _, h, hv => ⟨h, hv⟩
  | i :: ds, B, hf, h, hv => by
    rw [List.all_cons, Bool.and_eq_true] at hf
    exact Is.dropsB ds hf.2 (h.dropB i hf.1) (CT.mono (Sof_del i) hv)
theorem Fin.retMCG {fn : Func} {cs : List CT} {rv : List ResultVar} (ds : List Nat) (q : α) (hfn : fn.results = rv.toArray) (hr : AllRes (lentM P n S w0 B0 fx ρ0) L B rv cs) (hR : R q = .ct (retC cs)) (hf : (ds.all fun i => noFix (lentM P n S w0 B0 fx ρ0) i) = true) (hB : ∀ j, bget (B1 q) j = bget (ds.foldl bdel B) j) (hJ : J q) :
    ∀ a ρ w, Is (lentM P n S w0 B0 fx ρ0) L B a ρ w → a.defers = [] ∧ ∃ v, (results fn a.tmps).run P w = .ok v w ∧ Own.postM S w0 ρ0 B0 fx J R B1 (.returned v) w := fun a ρ w hI => by
  obtain ⟨v, h1, h2⟩ := results_run hfn hr hI
  obtain ⟨h3, h4⟩ := Is.dropsB ds hf hI h2
  exact ⟨hI.defers, v, h1, h3.postM q hB hJ (by rw [hR]; exact h4)⟩
theorem Fin.retMC {fn : Func} {cs : List CT} (ds : List Nat) (q : α) (rv : List ResultVar) (hfn : fn.results = rv.toArray) (hr : AllRes (lentM P n S w0 B0 fx ρ0) L B rv cs) (hR : R q = .ct (retC cs)) (hf : (ds.all fun i => noFix (lentM P n S w0 B0 fx ρ0) i) = true) (hB : ∀ j, bget (B1 q) j = bget (ds.foldl bdel B) j) (hJ : J q) :
    Fin (lentM P n S w0 B0 fx ρ0) L B (fun a w => bodyPost P fn (Own.postM S w0 ρ0 B0 fx J R B1) .ret a w) := Fin.retMCG ds q hfn hr hR hf hB hJ
theorem St.cutR {X : Ctx} {c y : Code} {Q : Exit → Act → World → Prop} {α : Type} (J : α → Prop) (Lx : α → AL) (Bx : α → BL) (h1 : ∀ q, J q → St X (Lx q) (Bx q) y Q)
    (h2 : ∀ K : Exit → Act → World → Prop, (∀ q, J q → Fin X (Lx q) (Bx q) (fun a w => K .normal a w)) → (∀ a w, Q .ret a w → K .ret a w) → St X L B c K) : St X L B c (Exit.then (y.wp X.P Q) Q) :=
  h2 _ (fun q hq => h1 q hq) (fun _ _ h => h)
theorem Fin.up {X : Ctx} {K1 K2 : Act → World → Prop} (h : ∀ a w, K1 a w → K2 a w) (h1 : Fin X L B K1) : Fin X L B K2 := fun a ρ w hI => h a w (h1 a ρ w hI)
end Go.Own
namespace Go.Proofs.YtlkdkbdgnjcopaaGreat
open Go.Own Go.Limbs
attribute [local irreducible] St Ops Go.Own.Fin Ok OkB OkN OkT OkL OkF OkM
abbrev Stm := Tk × Int
abbrev stmI (s : Stm) : List Int := [s.1.va, (s.1.ds.val : Int), s.1.pr, s.2]
abbrev stmE (s : Stm) : Value := Go.Own.encI ([.i64, .u32, .i64] ++ [.i64]) (stmI s)
abbrev stmV (s : Stm) : List Value := [.int .i64 s.1.va, .int .u32 (s.1.ds.val : Int), .int .i64 s.1.pr, .int .i64 s.2]
abbrev stmCs (s : Stm) : List CT := [intC s.1.va, adrF s.1.ds, intC s.1.pr, intC s.2]
theorem eqStm : EqF Tryz.prog 145 86 [.i64, .u32, .i64] [.i64] := ⟨by kernel_rfl, by kernel_rfl, by kernel_rfl, by kernel_rfl, by kernel_rfl, by kernel_rfl, by kernel_rfl, by kernel_rfl⟩
theorem stmI_inj (a b : Stm) (h : stmI a = stmI b) : a = b := by
  obtain ⟨⟨a1, a2, a3⟩, a4⟩ := a
  obtain ⟨⟨b1, b2, b3⟩, b4⟩ := b
  simp only [List.cons.injEq, and_true, Int.ofNat_inj, Fin.val_inj] at h
  obtain ⟨h1, h2, h3, h4⟩ := h
  rw [h1, h2, h3, h4]
theorem keyStm : KeyT Tryz.prog 145 stmE := eqStm.flat.key stmI (fun _ => rfl) stmI_inj
theorem lStm : LdN Tryz.prog 145 4 := LdN.of _ Tryz.underlying145 rfl (by kernel_rfl)
theorem szStm : (Tryz.prog.info? 145).map (·.size) = some 4 := by kernel_rfl
theorem zvStm : (Tryz.prog.info? 145).map (·.zero) = some (some (.agg #[.int .i64 0, .int .u32 0, .int .i64 0, .int .i64 0])) := by kernel_rfl
theorem bStm : bInfo Tryz.prog 145 = some (.agg #[.int .i64 0, .int .u32 0, .int .i64 0, .int .i64 0], [(0, some 3), (3, some 1)]) := by kernel_rfl
theorem Xl : fldInfo Tryz.prog 145 0 = some (0, some 3) := by kernel_rfl
theorem uMOwn : Tryz.prog.underlying 91 = some (.map 86 29) := Tryz.underlying91
theorem uMKnown : Tryz.prog.underlying 92 = some (.map 145 28) := Tryz.underlying92
theorem lMOwn : Ld1 Tryz.prog 91 := Ld1.of _ Tryz.underlying91 rfl
theorem lMKnown : Ld1 Tryz.prog 92 := Ld1.of _ Tryz.underlying92 rfl
theorem lTrav : LdN Tryz.prog 94 2 := LdN.of _ Tryz.underlying94 rfl (by kernel_rfl)
theorem szTrav : (Tryz.prog.info? 94).map (·.size) = some 2 := by kernel_rfl
theorem zvTrav : (Tryz.prog.info? 94).map (·.zero) = some (some (.agg #[.map none, .map none])) := by kernel_rfl
theorem bTrav : bInfo Tryz.prog 94 = some (.agg #[.map none, .map none], [(0, some 1), (1, some 1)]) := by kernel_rfl
theorem X0 : fldInfo Tryz.prog 94 0 = some (0, some 1) := by kernel_rfl
theorem XK : fldInfo Tryz.prog 94 1 = some (1, some 1) := by kernel_rfl
theorem z0Rss (w : World) : (zeroValue 29).run Tryz.prog w = .ok (.slice none 0 0) w := Xt (by kernel_rfl) w
theorem z0Ads (w : World) : (zeroValue 28).run Tryz.prog w = .ok (.slice none 0 0) w := Xt (by kernel_rfl) w
abbrev tkE (t : Tk) : Value := Go.Own.encI [.i64, .u32, .i64] (tkI t)
abbrev tkVs (t : Tk) : List Value := [.int .i64 t.va, .int .u32 (t.ds.val : Int), .int .i64 t.pr]
abbrev OwM := List (Tk × List Rs)
def owF (l : List Rs) : OwM := (trsF l).foldl (fun m t => ins m t (ofF l t)) []
abbrev owM (m : OwM) : List (Value × CT) := kvs tkE rssC m
abbrev adsC (l : List (Fin 4294967296)) : CT := .fr (sliceT 1 (l.map fun x => [adrF x]))
abbrev KnM := List (Stm × List (Fin 4294967296))
abbrev knM (m : KnM) : List (Value × CT) := kvs stmE adsC m
abbrev travC (om : OwM) (v : Value) : CT := .fr (aggT [.fr (mapT (owM om)), .ex v])
theorem owF_look (l : List Rs) (t : Tk) : (look1 (owF l) t).getD [] = ofF l t := by
  have key : ∀ (q : List Tk) (m : OwM), look1 (q.foldl (fun m t => ins m t (ofF l t)) m) t = if t ∈ q then some (ofF l t) else look1 m t := by
    intro q
    induction q with
    | nil => intro m; rw [if_neg (by simp)]; rfl
    | cons x q ih =>
      intro m
      rw [List.foldl_cons, ih, Xr]
      by_cases h : t ∈ q
      · rw [if_pos h, if_pos (List.mem_cons_of_mem _ h)]
      · rw [if_neg h]
        by_cases e : t = x
        · subst e; rw [if_pos rfl, if_pos (List.mem_cons_self ..)]
        · rw [if_neg e, if_neg (fun hm => (List.mem_cons.1 hm).elim e h)]
  unfold owF
  rw [key]
  by_cases h : t ∈ trsF l
  · rw [if_pos h]; rfl
  · rw [if_neg h]
    show [] = ofF l t
    unfold ofF
    symm
    refine List.filter_eq_nil_iff.2 fun r hr => ?_
    intro he
    refine h ?_
    have hm := ((Yw ordR (l.filter okR)).2 r).1 hr
    exact ((Yw ordT ((l.filter okR).map trOf)).2 t).2 (List.mem_map.2 ⟨r, hm, of_decide_eq_true he⟩)
def knOk (l : List Rs) (m : KnM) : Prop := ∀ s p, look1 m s = some p → p = pathF (ofF l s.1) s.2
end Go.Proofs.YtlkdkbdgnjcopaaGreat
namespace Go.Proofs.YtlkdkbdgnjcopaaGreat
open Go.Own Go.Limbs
attribute [local irreducible] St Ops Go.Own.Fin Ok OkB OkN OkT OkL OkF
abbrev spE (s : Sp) : Value := Go.Own.encI [.i64, .i64] [s.1, s.2]
theorem eqSp : EqS Tryz.prog 188 [.i64, .i64] := ⟨by kernel_rfl, by kernel_rfl, by kernel_rfl, by kernel_rfl⟩
theorem Xb : KeyT Tryz.prog 188 spE := eqSp.flat.key (fun s : Sp => [s.1, s.2]) (fun _ => rfl) (fun a b h => by
  obtain ⟨a1, a2⟩ := a; obtain ⟨b1, b2⟩ := b
  simp only [List.cons.injEq, and_true] at h
  rw [h.1, h.2])
theorem uMAd : Tryz.prog.underlying 181 = some (.map 188 27) := Tryz.underlying181
theorem uMSt : Tryz.prog.underlying 182 = some (.map 188 3) := Tryz.underlying182
theorem lMAd : Ld1 Tryz.prog 181 := Ld1.of _ Tryz.underlying181 rfl
theorem lMSt : Ld1 Tryz.prog 182 := Ld1.of _ Tryz.underlying182 rfl
theorem fV0 : fldInfo Tryz.prog 184 0 = some (0, some 1) := by kernel_rfl
theorem fV1 : fldInfo Tryz.prog 184 1 = some (1, some 1) := by kernel_rfl
theorem fV2 : fldInfo Tryz.prog 184 2 = some (2, some 1) := by kernel_rfl
theorem lView : LdN Tryz.prog 184 3 := LdN.of _ Tryz.underlying184 rfl (by kernel_rfl)
theorem szView : (Tryz.prog.info? 184).map (·.size) = some 3 := by kernel_rfl
theorem zvView : (Tryz.prog.info? 184).map (·.zero) = some (some (.agg #[.int .i64 0, .map none, .map none])) := by kernel_rfl
theorem bView : bInfo Tryz.prog 184 = some (.agg #[.int .i64 0, .map none, .map none], [(0, some 1), (1, some 1), (2, some 1)]) := by kernel_rfl
theorem YV : LdN Tryz.prog 188 2 := LdN.of _ Tryz.underlying188 rfl (by kernel_rfl)
theorem szSpot : (Tryz.prog.info? 188).map (·.size) = some 2 := by kernel_rfl
theorem zvSpot : (Tryz.prog.info? 188).map (·.zero) = some (some (.agg #[.int .i64 0, .int .i64 0])) := by kernel_rfl
theorem bSpot : bInfo Tryz.prog 188 = some (.agg #[.int .i64 0, .int .i64 0], [(0, some 1), (1, some 1)]) := by kernel_rfl
theorem z0Int (w : World) : (zeroValue 3).run Tryz.prog w = .ok (.int .i64 0) w := Xt (by kernel_rfl) w
theorem z0Adr (w : World) : (zeroValue 27).run Tryz.prog w = .ok (.int .u32 0) w := Xt (by kernel_rfl) w
abbrev adM (m : AdM) : List (Value × CT) := kvs spE adrF m
abbrev stM (m : StM) : List (Value × CT) := kvs spE intC m
abbrev viewC (e : Int) (m : AdM × StM) : CT := .fr (aggT [intC e, .fr (mapT (adM m.1)), .fr (mapT (stM m.2))])
theorem goHas : InGo Tryz.prog 129 := InGo.of Tryz.func129 rfl (by decide)
theorem Has_ok (e fl tt : Int) (m : AdM × StM) : Ok Tryz.prog 129 [viewC e m, intC fl, intC tt] (boolC (hasS m.2 fl tt)) := by
  have e0 : hasS m.2 fl tt = (decide ((look1 m.2 (fl, tt)).getD 0 = 2) || decide ((look1 m.2 (fl, tt)).getD 0 = 1)) := rfl
  refine Ok.enter Tryz.func129 rfl _ Tryz.ntmps129 rfl ?_
  intro S w
  (refine Qw (Qx fun K hK => ?_); refine Xk 0 rfl rfl rfl rfl rfl rfl rfl ?_; refine Qv rfl rfl rfl ?_; refine Qj (hK _ _ (Qz (Qw ?_))); clear hK K; refine Qx (fun K hK => ?_); refine QV rfl rfl rfl (by with_reducible first | exact fV0 | exact fV1 | exact fV2) rfl ?_; refine QJ rfl rfl rfl rfl rfl (by with_reducible first | exact lMSt | exact lMAd) rfl ?_; refine Qq rfl rfl rfl ?_; refine Qq rfl rfl rfl ?_)
  refine Xq rfl (by with_reducible exact bSpot) rfl (.one rfl rfl rfl rfl (.one rfl rfl rfl rfl .nil)) rfl ?_
  refine Ops.lookF (cv := intC) (enc := spE) 0 (fl, tt) rfl rfl rfl (KeyIs.agg (us := [.int .i64 fl, .int .i64 tt]) rfl) uMSt z0Int (fun _ _ => rfl) Xb rfl ?_
  generalize (look1 m.2 (fl, tt)).getD 0 = q at e0
  (refine Qv rfl rfl rfl ?_; refine Qj (hK _ _ (Qz (Qw ?_))); clear hK K; refine Qx (fun K hK => ?_); refine Qq rfl rfl rfl ?_; refine Qk ieql rfl rfl rfl rfl ?_; refine Qq rfl rfl rfl ?_)
  refine Q5 16 (p := q = 2) rfl (fun h => ?_) (fun h => ?_)
  · (refine Qy rfl rfl rfl ?_; refine Qy rfl rfl rfl ?_; refine QZ rfl rfl rfl rfl ?_; refine Qv rfl rfl rfl ?_; refine Qj (hK _ _ (Qz (Q0 ?_))); clear hK K)
    refine QU [_] rfl (QQ rfl QX) (by rw [e0, decide_eq_true h, Bool.true_or]; rfl) rfl
  · (refine Qq rfl rfl rfl ?_; refine Qk ieql rfl rfl rfl rfl ?_; refine QK rfl rfl rfl rfl ?_; refine Qv rfl rfl rfl ?_; refine Qj (hK _ _ (Qz (Q0 ?_))); clear hK K)
    refine QU [_] rfl (QQ rfl QX) (by rw [e0, decide_eq_false h, Bool.false_or]; rfl) rfl
theorem goLook : InGo Tryz.prog 128 := InGo.of Tryz.func128 rfl (by decide)
set_option maxHeartbeats 8000000 in
theorem Look_ok (l : List Rs) (hl : l.length ≤ 100000) : Ok Tryz.prog 128 [rssC l] (viewC (endF l) (lookG l)) := by
  have hE := End_ok l hl
  have e0 : lookG l = l.foldl (lookS (endF l)) ([], []) := rfl
  rw [e0]
  clear e0
  generalize endF l = e at hE ⊢
  refine Ok.enter Tryz.func128 rfl _ Tryz.ntmps128 rfl ?_
  intro S w
  (refine Qw (Qx fun K hK => ?_); refine Qh 0 rfl rfl (by with_reducible exact zvView) rfl rfl rfl ?_; refine Qj (hK _ _ (Qz (Qw ?_))); clear hK K; refine Qx (fun K hK => ?_); refine Qq rfl rfl rfl ?_)
  refine QW goEnd hE rfl rfl rfl rfl ?_
  refine Ops.mkMap 8 rfl rfl rfl rfl rfl (fun v1 hv1 => ?_)
  refine Ops.mkMap 9 rfl rfl rfl rfl rfl (fun v2 hv2 => ?_)
  refine Xq rfl (by with_reducible exact bView) rfl (.one rfl rfl rfl rfl (.one rfl rfl hv1 rfl (.one rfl rfl hv2 rfl .nil))) rfl ?_
  refine Qh 1 rfl rfl (by with_reducible exact zvView) rfl rfl rfl ?_
  refine Qe 3 rfl rfl rfl rfl (by show (true && (Value.oneCell' v1 && (Value.oneCell' v2 && true))) = true; rw [hv1, hv2]; rfl) (by with_reducible exact szView) rfl rfl ?_
  (refine Qj (hK _ _ (Qz (Qw (Qw ?_)))); clear hK K; refine Qx (fun K hK => ?_); refine Qq rfl rfl rfl ?_; refine Qd rfl rfl (by with_reducible exact sRes.und) (List.length_map ..) rfl ?_; refine Qq rfl rfl rfl ?_; refine Qj (hK _ _ (Qz (Q4 ?_))); clear hK K)
  refine Xz (α := Nat) (fun i => i ≤ l.length)
    (fun i => [(2, .own 0), (3, .own 1), (13, .ct (rssC l)), (14, .ct (intC l.length)), (15, .ct (intC i))])
    (fun i => [(1, .box 184 [intC e, .ex v1, .ex v2]), (9, .mpx v2 (stM ((l.take i).foldl (lookS e) ([], [])).2)), (8, .mpx v1 (adM ((l.take i).foldl (lookS e) ([], [])).1)), (0, .box 184 [intC 0, .ex (.map none), .ex (.map none)])])
    (fun i => l.length - i) 0 (Nat.zero_le _) (by exact Qu rfl ⟨rfl, rfl, rfl, rfl, rfl, trivial⟩) ?_
  intro i hi
  try dsimp only at hi ⊢
  (refine Qw (Qx fun K hK => ?_); refine Qk ilss rfl rfl rfl rfl ?_; refine Qj (hK _ _ (Qz (Qw ?_))); clear hK K)
  refine Q2 rfl (fun h => ?_) (fun h => ?_)
  · have e2 : (i : Int).toNat = i := Int.toNat_natCast i
    have hs := foldl_take (lookS e) ([], []) (z := rs0) (l := l) (i := i) (by omega)
    generalize (l.take i).foldl (lookS e) ([], []) = m at hs ⊢
    have next : ∀ m' : AdM × StM, lookS e m (l.getD i rs0) = m' → (l.take (i + 1)).foldl (lookS e) ([], []) = m' := fun m' h => by rw [hs, h]
    clear hs
    refine Q1 ?_
    refine Qz ?_
    refine Qw ?_
    refine ZV (α := AdM × StM) (fun q => lookS e m (l.getD i rs0) = q) (fun _ => [(2, .own 0), (3, .own 1), (13, .ct (rssC l)), (14, .ct (intC l.length)), (15, .ct (intC i))])
      (fun q => [(1, .box 184 [intC e, .ex v1, .ex v2]), (9, .mpx v2 (stM q.2)), (8, .mpx v1 (adM q.1)), (0, .box 184 [intC 0, .ex (.map none), .ex (.map none)])]) (fun q hq => ?_) (fun KN hM => ?_)
    · have en := next q hq
      (refine Qx (fun K hK => ?_); refine Qk (iadd (by omega) (by omega)) rfl rfl rfl rfl ?_; refine Qq rfl rfl rfl ?_; refine Qj (hK _ _ (Q3 ?_)); clear hK K)
      refine Q7 (i + 1) (by omega) (by omega) (by rw [en]; exact Qu rfl ⟨rfl, rfl, rfl, rfl, by simp only [Int.natCast_add]; rfl, trivial⟩)
    clear next
    refine Q4 ?_
    refine Qw ?_
    refine Qx (fun K hK => ?_)
    refine Qg rfl rfl rfl (by with_reducible exact sRes) (by omega) (Xa (by omega) (by omega)) rfl ?_
    rw [e2]
    generalize l.getD i rs0 = c at hM ⊢
    refine XZ (n := 17) rfl rfl rfl (by with_reducible exact lRes) rfl rfl ?_
    refine Qh 2 rfl rfl (by with_reducible exact zvRes) rfl rfl rfl ?_
    refine Qe 17 rfl rfl rfl rfl rfl (by with_reducible exact szRes) rfl rfl ?_
    refine Qj (hK _ _ ?_)
    clear hK K
    refine Qz ?_
    have hU := Usable_ok c
    have es : lookS e m c = if usR c = false ∨ (0 < e ∧ e < c.tt) then m
      else if c.an = false then (m.1, ins m.2 (c.fl, c.tt) (max ((look1 m.2 (c.fl, c.tt)).getD 0) 1))
      else if (look1 m.2 (c.fl, c.tt)).getD 0 ≤ 1 then (ins m.1 (c.fl, c.tt) c.fr, ins m.2 (c.fl, c.tt) 2)
      else if (look1 m.2 (c.fl, c.tt)).getD 0 = 2 ∧ (look1 m.1 (c.fl, c.tt)).getD 0 ≠ c.fr then (ins m.1 (c.fl, c.tt) 0, ins m.2 (c.fl, c.tt) 3)
      else m := rfl
    generalize usR c = ub at hU es
    refine Qw ?_
    refine Qw ?_
    refine ZV (α := Bool) (fun b => b = true ↔ (ub = false ∨ (0 < e ∧ e < c.tt)))
      (fun b => [(2, .own 0), (3, .own 1), (5, .own 2), (13, .ct (rssC l)), (14, .ct (intC l.length)), (15, .ct (intC i)), (33, .ct (boolC b))])
      (fun _ => [(2, .box 35 (rsCs c)), (1, .box 184 [intC e, .ex v1, .ex v2]), (9, .mpx v2 (stM m.2)), (8, .mpx v1 (adM m.1)), (0, .box 184 [intC 0, .ex (.map none), .ex (.map none)])]) (fun b hb => ?_) (fun KK hN => ?_)
    rotate_left
    · (refine Qx (fun K hK => ?_); refine Qa (n := 17) rfl rfl rfl rfl rfl (by with_reducible exact lRes) rfl ?_)
      refine QW goUsable hU rfl rfl rfl rfl ?_
      (refine Qp rfl rfl rfl ?_; refine Qq rfl rfl rfl ?_)
      refine X3 22 (b := !ub) rfl (fun h1 => ?_) (fun h1 => ?_)
      · (refine Qy rfl rfl rfl ?_; refine Qy rfl rfl rfl ?_; refine Qy rfl rfl rfl ?_; refine Qy rfl rfl rfl ?_; refine Qy rfl rfl rfl ?_; refine Qy rfl rfl rfl ?_; refine Qy rfl rfl rfl ?_; refine Qy rfl rfl rfl ?_; refine Qy rfl rfl rfl ?_; refine Qy rfl rfl rfl ?_; refine QZ rfl rfl rfl rfl ?_; refine Qj (hK _ _ ?_); clear hK K)
        exact Qt hN true (iff_of_true rfl (.inl (by simpa using h1))) (by exact Qu rfl ⟨rfl, rfl, rfl, rfl, rfl, rfl, rfl, trivial⟩)
      · have hub : ub = true := by simpa using h1
        (refine QV rfl rfl rfl (by with_reducible first | exact fV0 | exact fV1 | exact fV2) rfl ?_; refine QJ rfl rfl rfl rfl rfl (by with_reducible first | exact lInt | exact Q9 | exact Q6 | exact lRess) rfl ?_; refine Qk igtr rfl rfl rfl rfl ?_; refine Qq rfl rfl rfl ?_)
        refine Q5 26 (p := 0 < e) rfl (fun h3 => ?_) (fun h3 => ?_)
        · (refine QV rfl rfl rfl (by with_reducible first | exact fS0 | exact fS1 | exact fS2 | exact fS3 | exact fS4 | exact fS5 | exact fS6 | exact fS7 | exact fS8 | exact fS9 | exact fS10 | exact fS11 | exact fN0 | exact fN1 | exact fN2 | exact fN3 | exact fN4 | exact fN5) rfl ?_; refine QJ rfl rfl rfl rfl rfl (by with_reducible first | exact lInt | exact Q9 | exact Q6 | exact lRess) rfl ?_; refine QV rfl rfl rfl (by with_reducible first | exact fV0 | exact fV1 | exact fV2) rfl ?_; refine QJ rfl rfl rfl rfl rfl (by with_reducible first | exact lInt | exact Q9 | exact Q6 | exact lRess) rfl ?_; refine Qk igtr rfl rfl rfl rfl ?_; refine QZ rfl rfl rfl rfl ?_; refine QK rfl rfl rfl rfl ?_; refine Qj (hK _ _ ?_); clear hK K)
          exact Qt hN (decide (e < c.tt)) (by rw [decide_eq_true_iff]; constructor; exact fun h => .inr ⟨h3, h⟩; exact fun h => h.elim (fun h => by rw [hub] at h; cases h) (·.2)) (by exact Qu rfl ⟨rfl, rfl, rfl, rfl, rfl, rfl, rfl, trivial⟩)
        · (refine Qy rfl rfl rfl ?_; refine Qy rfl rfl rfl ?_; refine Qy rfl rfl rfl ?_; refine Qy rfl rfl rfl ?_; refine Qy rfl rfl rfl ?_; refine QK rfl rfl rfl rfl ?_; refine QK rfl rfl rfl rfl ?_; refine Qj (hK _ _ ?_); clear hK K)
          exact Qt hN false (iff_of_false (by decide) (fun h => h.elim (fun h => by rw [hub] at h; cases h) (fun h => h3 h.1))) (by exact Qu rfl ⟨rfl, rfl, rfl, rfl, rfl, rfl, rfl, trivial⟩)
    cases b with
    | true =>
      have es : lookS e m c = m := by rw [es, if_pos (hb.1 rfl)]
      (refine Qo rfl (Qn (Fin.thenExit (Fin.blockE ?_))))
      exact Qt hM _ es (Qc 2 (by exact Qu rfl ⟨rfl, rfl, rfl, rfl, rfl, trivial⟩))
    | false =>
      rw [if_neg (fun h => by have := hb.2 h; cases this)] at es
      (refine Xx rfl (Q1 (Qz (Qw (Qx fun K hK => ?_)))); refine QV rfl rfl rfl (by with_reducible first | exact fS0 | exact fS1 | exact fS2 | exact fS3 | exact fS4 | exact fS5 | exact fS6 | exact fS7 | exact fS8 | exact fS9 | exact fS10 | exact fS11 | exact fN0 | exact fN1 | exact fN2 | exact fN3 | exact fN4 | exact fN5) rfl ?_; refine QJ rfl rfl rfl rfl rfl (by with_reducible first | exact lInt | exact Q9 | exact Q6 | exact lRess) rfl ?_; refine QV rfl rfl rfl (by with_reducible first | exact fS0 | exact fS1 | exact fS2 | exact fS3 | exact fS4 | exact fS5 | exact fS6 | exact fS7 | exact fS8 | exact fS9 | exact fS10 | exact fS11 | exact fN0 | exact fN1 | exact fN2 | exact fN3 | exact fN4 | exact fN5) rfl ?_; refine QJ rfl rfl rfl rfl rfl (by with_reducible first | exact lInt | exact Q9 | exact Q6 | exact lRess) rfl ?_)
      refine Xq rfl (by with_reducible exact bSpot) rfl (.one rfl rfl rfl rfl (.one rfl rfl rfl rfl .nil)) rfl ?_
      refine Qh 3 rfl rfl (by with_reducible exact zvSpot) rfl rfl rfl ?_
      (refine Qe 2 rfl rfl rfl rfl rfl (by with_reducible exact szSpot) rfl rfl ?_; refine Qj (hK _ _ (Qz (Qw ?_))); clear hK K; refine Qx (fun K hK => ?_); refine QV rfl rfl rfl (by with_reducible first | exact fV0 | exact fV1 | exact fV2) rfl ?_; refine QJ rfl rfl rfl rfl rfl (by with_reducible first | exact lMSt | exact lMAd) rfl ?_; refine Qa (n := 2) rfl rfl rfl rfl rfl (by with_reducible exact YV) rfl ?_)
      refine Ops.lookM (i := 9) (cv := intC) (enc := spE) 0 (c.fl, c.tt) rfl rfl rfl rfl (KeyIs.agg (us := [.int .i64 c.fl, .int .i64 c.tt]) rfl) uMSt z0Int (fun _ _ => rfl) Xb rfl ?_
      generalize (look1 m.2 (c.fl, c.tt)).getD 0 = kn at es ⊢
      (refine Qv rfl rfl rfl ?_; refine Qj (hK _ _ (Qz (Q4 (Qw ?_)))); clear hK K; refine Qx (fun K hK => ?_); refine QV rfl rfl rfl (by with_reducible first | exact fS0 | exact fS1 | exact fS2 | exact fS3 | exact fS4 | exact fS5 | exact fS6 | exact fS7 | exact fS8 | exact fS9 | exact fS10 | exact fS11 | exact fN0 | exact fN1 | exact fN2 | exact fN3 | exact fN4 | exact fN5) rfl ?_; refine QJ rfl rfl rfl rfl rfl (by with_reducible first | exact lInt | exact Q9 | exact Q6 | exact lRess) rfl ?_; refine Qp rfl rfl rfl ?_; refine Qv rfl rfl rfl ?_; refine Qj (hK _ _ (Qz ?_)); clear hK K)
      refine XX rfl (fun h1 => ?_) (fun h1 => ?_)
      · have h1' : c.an = false := by simpa using h1
        rw [if_pos h1'] at es
        (refine Qx (fun K hK => ?_); refine QV rfl rfl rfl (by with_reducible first | exact fV0 | exact fV1 | exact fV2) rfl ?_; refine QJ rfl rfl rfl rfl rfl (by with_reducible first | exact lMSt | exact lMAd) rfl ?_; refine Qa (n := 2) rfl rfl rfl rfl rfl (by with_reducible exact YV) rfl ?_; refine Qq rfl rfl rfl ?_; refine Ops.max2 rfl rfl rfl rfl ?_)
        refine Xv (i := 9) (enc := spE) (cv := intC) (c.fl, c.tt) (max kn 1) rfl rfl rfl (KeyIs.agg (us := [.int .i64 c.fl, .int .i64 c.tt]) rfl) rfl uMSt Xb ?_
        (refine Qj (hK _ _ (Qb (Qb ?_))); clear hK K)
        exact Qt hM _ es (Qc 3 (Qc 2 (by exact Qu rfl ⟨rfl, rfl, rfl, rfl, rfl, trivial⟩)))
      · have h1' : c.an = true := by simpa using h1
        rw [if_neg (fun h => by rw [h1'] at h; cases h)] at es
        (refine Qw (Qx fun K hK => ?_); refine Qq rfl rfl rfl ?_; refine Qk ileq rfl rfl rfl rfl ?_; refine Qv rfl rfl rfl ?_; refine Qj (hK _ _ (Qz ?_)); clear hK K)
        refine Q2 rfl (fun h2 => ?_) (fun h2 => ?_)
        · rw [if_pos h2] at es
          refine St.drawQ (by with_reducible exact mixed) [9, 10] (.p 0 (.p 3 (.p 6 (.p 7 (.f 1 (.f 2 (.m 4 (.m 5 (.m 8 (.a 9 (.a 10 .done .non) .non) (.a 9 (.f 8 (.a 10 .done .non)) .non)) (.m 8 (.m 5 (.a 9 (.a 10 .done .non) .non) (.a 9 (.f 5 (.a 10 .done .non)) .non)) (.a 9 (.f 5 (.f 8 (.a 10 .done .non))) .non))) (.m 5 (.m 4 (.m 8 (.a 9 (.a 10 .done .non) .non) (.a 9 (.f 8 (.a 10 .done .non)) .non)) (.m 8 (.m 4 (.a 9 (.a 10 .done .non) .non) (.a 9 (.f 4 (.a 10 .done .non)) .non)) (.a 9 (.f 4 (.f 8 (.a 10 .done .non))) .non))) (.m 8 (.m 4 (.m 5 (.a 9 (.a 10 .done .non) .non) (.a 9 (.f 5 (.a 10 .done .non)) .non)) (.m 5 (.m 4 (.a 9 (.a 10 .done .non) .non) (.a 9 (.f 4 (.a 10 .done .non)) .non)) (.a 9 (.f 4 (.f 5 (.a 10 .done .non))) .non))) (.a 9 (.f 4 (.f 5 (.f 8 (.a 10 .done .non)))) .non)))))))))) (by kernel_rfl) (fun K hK => ?_)
          refine YZ ?_
          refine QV rfl rfl rfl (by with_reducible exact fV2) rfl ?_
          refine Qj ?_
          refine YZ ?_
          refine QV rfl rfl rfl (by with_reducible exact fV1) rfl ?_
          refine Qj ?_
          refine YZ ?_
          refine QV rfl rfl rfl (by with_reducible exact fS11) rfl ?_
          refine Qj ?_
          refine YZ ?_
          refine X2 rfl rfl (by with_reducible exact fN0) rfl ?_
          refine Qj ?_
          refine Zq ?_
          refine QJ rfl rfl rfl rfl rfl (by with_reducible exact lMSt) rfl ?_
          refine Qj ?_
          refine Zq ?_
          refine Qa (n := 2) rfl rfl rfl rfl rfl (by with_reducible exact YV) rfl ?_
          refine Qj ?_
          refine Xs ?_ ?_
          · refine QJ rfl rfl rfl rfl rfl (by with_reducible exact lMAd) rfl ?_
            refine Qj ?_
            refine Xs ?_ ?_
            · refine Qa (n := 2) rfl rfl rfl rfl rfl (by with_reducible exact YV) rfl ?_
              refine Qj ?_
              refine Xs ?_ ?_
              · refine QJ rfl rfl rfl rfl rfl (by with_reducible exact Q9) rfl ?_
                refine Qj ?_
                refine XV ?_ Qr
                refine Xv (i := 9) (enc := spE) (cv := intC) (c.fl, c.tt) 2 rfl rfl rfl (KeyIs.agg (us := [.int .i64 c.fl, .int .i64 c.tt]) rfl) rfl uMSt Xb ?_
                refine Qj ?_
                refine XV ?_ Qr
                refine Xv (i := 8) (enc := spE) (cv := adrF) (c.fl, c.tt) c.fr rfl rfl rfl (KeyIs.agg (us := [.int .i64 c.fl, .int .i64 c.tt]) rfl) rfl uMAd Xb ?_
                refine Qj ?_
                refine XY (hK _ _ ?_)
                (refine Qb (Qb ?_))
                exact Qt hM _ es (Qc 3 (Qc 2 (by exact Qu rfl ⟨rfl, rfl, rfl, rfl, rfl, trivial⟩)))
              refine XV ?_ Qr
              refine Xv (i := 9) (enc := spE) (cv := intC) (c.fl, c.tt) 2 rfl rfl rfl (KeyIs.agg (us := [.int .i64 c.fl, .int .i64 c.tt]) rfl) rfl uMSt Xb ?_
              refine Qj ?_
              refine Zq ?_
              refine QJ rfl rfl rfl rfl rfl (by with_reducible exact Q9) rfl ?_
              refine Qj ?_
              refine XV ?_ Qr
              refine Xv (i := 8) (enc := spE) (cv := adrF) (c.fl, c.tt) c.fr rfl rfl rfl (KeyIs.agg (us := [.int .i64 c.fl, .int .i64 c.tt]) rfl) rfl uMAd Xb ?_
              refine Qj ?_
              refine XY (hK _ _ ?_)
              (refine Qb (Qb ?_))
              exact Qt hM _ es (Qc 3 (Qc 2 (by exact Qu rfl ⟨rfl, rfl, rfl, rfl, rfl, trivial⟩)))
            refine Xs ?_ ?_
            · refine QJ rfl rfl rfl rfl rfl (by with_reducible exact Q9) rfl ?_
              refine Qj ?_
              refine Xs ?_ ?_
              · refine Qa (n := 2) rfl rfl rfl rfl rfl (by with_reducible exact YV) rfl ?_
                refine Qj ?_
                refine XV ?_ Qr
                refine Xv (i := 9) (enc := spE) (cv := intC) (c.fl, c.tt) 2 rfl rfl rfl (KeyIs.agg (us := [.int .i64 c.fl, .int .i64 c.tt]) rfl) rfl uMSt Xb ?_
                refine Qj ?_
                refine XV ?_ Qr
                refine Xv (i := 8) (enc := spE) (cv := adrF) (c.fl, c.tt) c.fr rfl rfl rfl (KeyIs.agg (us := [.int .i64 c.fl, .int .i64 c.tt]) rfl) rfl uMAd Xb ?_
                refine Qj ?_
                refine XY (hK _ _ ?_)
                (refine Qb (Qb ?_))
                exact Qt hM _ es (Qc 3 (Qc 2 (by exact Qu rfl ⟨rfl, rfl, rfl, rfl, rfl, trivial⟩)))
              refine XV ?_ Qr
              refine Xv (i := 9) (enc := spE) (cv := intC) (c.fl, c.tt) 2 rfl rfl rfl (KeyIs.agg (us := [.int .i64 c.fl, .int .i64 c.tt]) rfl) rfl uMSt Xb ?_
              refine Qj ?_
              refine Zq ?_
              refine Qa (n := 2) rfl rfl rfl rfl rfl (by with_reducible exact YV) rfl ?_
              refine Qj ?_
              refine XV ?_ Qr
              refine Xv (i := 8) (enc := spE) (cv := adrF) (c.fl, c.tt) c.fr rfl rfl rfl (KeyIs.agg (us := [.int .i64 c.fl, .int .i64 c.tt]) rfl) rfl uMAd Xb ?_
              refine Qj ?_
              refine XY (hK _ _ ?_)
              (refine Qb (Qb ?_))
              exact Qt hM _ es (Qc 3 (Qc 2 (by exact Qu rfl ⟨rfl, rfl, rfl, rfl, rfl, trivial⟩)))
            refine XV ?_ Qr
            refine Xv (i := 9) (enc := spE) (cv := intC) (c.fl, c.tt) 2 rfl rfl rfl (KeyIs.agg (us := [.int .i64 c.fl, .int .i64 c.tt]) rfl) rfl uMSt Xb ?_
            refine Qj ?_
            refine Zq ?_
            refine Qa (n := 2) rfl rfl rfl rfl rfl (by with_reducible exact YV) rfl ?_
            refine Qj ?_
            refine Zq ?_
            refine QJ rfl rfl rfl rfl rfl (by with_reducible exact Q9) rfl ?_
            refine Qj ?_
            refine XV ?_ Qr
            refine Xv (i := 8) (enc := spE) (cv := adrF) (c.fl, c.tt) c.fr rfl rfl rfl (KeyIs.agg (us := [.int .i64 c.fl, .int .i64 c.tt]) rfl) rfl uMAd Xb ?_
            refine Qj ?_
            refine XY (hK _ _ ?_)
            (refine Qb (Qb ?_))
            exact Qt hM _ es (Qc 3 (Qc 2 (by exact Qu rfl ⟨rfl, rfl, rfl, rfl, rfl, trivial⟩)))
          refine Xs ?_ ?_
          · refine Qa (n := 2) rfl rfl rfl rfl rfl (by with_reducible exact YV) rfl ?_
            refine Qj ?_
            refine Xs ?_ ?_
            · refine QJ rfl rfl rfl rfl rfl (by with_reducible exact lMAd) rfl ?_
              refine Qj ?_
              refine Xs ?_ ?_
              · refine QJ rfl rfl rfl rfl rfl (by with_reducible exact Q9) rfl ?_
                refine Qj ?_
                refine XV ?_ Qr
                refine Xv (i := 9) (enc := spE) (cv := intC) (c.fl, c.tt) 2 rfl rfl rfl (KeyIs.agg (us := [.int .i64 c.fl, .int .i64 c.tt]) rfl) rfl uMSt Xb ?_
                refine Qj ?_
                refine XV ?_ Qr
                refine Xv (i := 8) (enc := spE) (cv := adrF) (c.fl, c.tt) c.fr rfl rfl rfl (KeyIs.agg (us := [.int .i64 c.fl, .int .i64 c.tt]) rfl) rfl uMAd Xb ?_
                refine Qj ?_
                refine XY (hK _ _ ?_)
                (refine Qb (Qb ?_))
                exact Qt hM _ es (Qc 3 (Qc 2 (by exact Qu rfl ⟨rfl, rfl, rfl, rfl, rfl, trivial⟩)))
              refine XV ?_ Qr
              refine Xv (i := 9) (enc := spE) (cv := intC) (c.fl, c.tt) 2 rfl rfl rfl (KeyIs.agg (us := [.int .i64 c.fl, .int .i64 c.tt]) rfl) rfl uMSt Xb ?_
              refine Qj ?_
              refine Zq ?_
              refine QJ rfl rfl rfl rfl rfl (by with_reducible exact Q9) rfl ?_
              refine Qj ?_
              refine XV ?_ Qr
              refine Xv (i := 8) (enc := spE) (cv := adrF) (c.fl, c.tt) c.fr rfl rfl rfl (KeyIs.agg (us := [.int .i64 c.fl, .int .i64 c.tt]) rfl) rfl uMAd Xb ?_
              refine Qj ?_
              refine XY (hK _ _ ?_)
              (refine Qb (Qb ?_))
              exact Qt hM _ es (Qc 3 (Qc 2 (by exact Qu rfl ⟨rfl, rfl, rfl, rfl, rfl, trivial⟩)))
            refine Xs ?_ ?_
            · refine QJ rfl rfl rfl rfl rfl (by with_reducible exact Q9) rfl ?_
              refine Qj ?_
              refine Xs ?_ ?_
              · refine QJ rfl rfl rfl rfl rfl (by with_reducible exact lMAd) rfl ?_
                refine Qj ?_
                refine XV ?_ Qr
                refine Xv (i := 9) (enc := spE) (cv := intC) (c.fl, c.tt) 2 rfl rfl rfl (KeyIs.agg (us := [.int .i64 c.fl, .int .i64 c.tt]) rfl) rfl uMSt Xb ?_
                refine Qj ?_
                refine XV ?_ Qr
                refine Xv (i := 8) (enc := spE) (cv := adrF) (c.fl, c.tt) c.fr rfl rfl rfl (KeyIs.agg (us := [.int .i64 c.fl, .int .i64 c.tt]) rfl) rfl uMAd Xb ?_
                refine Qj ?_
                refine XY (hK _ _ ?_)
                (refine Qb (Qb ?_))
                exact Qt hM _ es (Qc 3 (Qc 2 (by exact Qu rfl ⟨rfl, rfl, rfl, rfl, rfl, trivial⟩)))
              refine XV ?_ Qr
              refine Xv (i := 9) (enc := spE) (cv := intC) (c.fl, c.tt) 2 rfl rfl rfl (KeyIs.agg (us := [.int .i64 c.fl, .int .i64 c.tt]) rfl) rfl uMSt Xb ?_
              refine Qj ?_
              refine Zq ?_
              refine QJ rfl rfl rfl rfl rfl (by with_reducible exact lMAd) rfl ?_
              refine Qj ?_
              refine XV ?_ Qr
              refine Xv (i := 8) (enc := spE) (cv := adrF) (c.fl, c.tt) c.fr rfl rfl rfl (KeyIs.agg (us := [.int .i64 c.fl, .int .i64 c.tt]) rfl) rfl uMAd Xb ?_
              refine Qj ?_
              refine XY (hK _ _ ?_)
              (refine Qb (Qb ?_))
              exact Qt hM _ es (Qc 3 (Qc 2 (by exact Qu rfl ⟨rfl, rfl, rfl, rfl, rfl, trivial⟩)))
            refine XV ?_ Qr
            refine Xv (i := 9) (enc := spE) (cv := intC) (c.fl, c.tt) 2 rfl rfl rfl (KeyIs.agg (us := [.int .i64 c.fl, .int .i64 c.tt]) rfl) rfl uMSt Xb ?_
            refine Qj ?_
            refine Zq ?_
            refine QJ rfl rfl rfl rfl rfl (by with_reducible exact lMAd) rfl ?_
            refine Qj ?_
            refine Zq ?_
            refine QJ rfl rfl rfl rfl rfl (by with_reducible exact Q9) rfl ?_
            refine Qj ?_
            refine XV ?_ Qr
            refine Xv (i := 8) (enc := spE) (cv := adrF) (c.fl, c.tt) c.fr rfl rfl rfl (KeyIs.agg (us := [.int .i64 c.fl, .int .i64 c.tt]) rfl) rfl uMAd Xb ?_
            refine Qj ?_
            refine XY (hK _ _ ?_)
            (refine Qb (Qb ?_))
            exact Qt hM _ es (Qc 3 (Qc 2 (by exact Qu rfl ⟨rfl, rfl, rfl, rfl, rfl, trivial⟩)))
          refine Xs ?_ ?_
          · refine QJ rfl rfl rfl rfl rfl (by with_reducible exact Q9) rfl ?_
            refine Qj ?_
            refine Xs ?_ ?_
            · refine QJ rfl rfl rfl rfl rfl (by with_reducible exact lMAd) rfl ?_
              refine Qj ?_
              refine Xs ?_ ?_
              · refine Qa (n := 2) rfl rfl rfl rfl rfl (by with_reducible exact YV) rfl ?_
                refine Qj ?_
                refine XV ?_ Qr
                refine Xv (i := 9) (enc := spE) (cv := intC) (c.fl, c.tt) 2 rfl rfl rfl (KeyIs.agg (us := [.int .i64 c.fl, .int .i64 c.tt]) rfl) rfl uMSt Xb ?_
                refine Qj ?_
                refine XV ?_ Qr
                refine Xv (i := 8) (enc := spE) (cv := adrF) (c.fl, c.tt) c.fr rfl rfl rfl (KeyIs.agg (us := [.int .i64 c.fl, .int .i64 c.tt]) rfl) rfl uMAd Xb ?_
                refine Qj ?_
                refine XY (hK _ _ ?_)
                (refine Qb (Qb ?_))
                exact Qt hM _ es (Qc 3 (Qc 2 (by exact Qu rfl ⟨rfl, rfl, rfl, rfl, rfl, trivial⟩)))
              refine XV ?_ Qr
              refine Xv (i := 9) (enc := spE) (cv := intC) (c.fl, c.tt) 2 rfl rfl rfl (KeyIs.agg (us := [.int .i64 c.fl, .int .i64 c.tt]) rfl) rfl uMSt Xb ?_
              refine Qj ?_
              refine Zq ?_
              refine Qa (n := 2) rfl rfl rfl rfl rfl (by with_reducible exact YV) rfl ?_
              refine Qj ?_
              refine XV ?_ Qr
              refine Xv (i := 8) (enc := spE) (cv := adrF) (c.fl, c.tt) c.fr rfl rfl rfl (KeyIs.agg (us := [.int .i64 c.fl, .int .i64 c.tt]) rfl) rfl uMAd Xb ?_
              refine Qj ?_
              refine XY (hK _ _ ?_)
              (refine Qb (Qb ?_))
              exact Qt hM _ es (Qc 3 (Qc 2 (by exact Qu rfl ⟨rfl, rfl, rfl, rfl, rfl, trivial⟩)))
            refine Xs ?_ ?_
            · refine Qa (n := 2) rfl rfl rfl rfl rfl (by with_reducible exact YV) rfl ?_
              refine Qj ?_
              refine Xs ?_ ?_
              · refine QJ rfl rfl rfl rfl rfl (by with_reducible exact lMAd) rfl ?_
                refine Qj ?_
                refine XV ?_ Qr
                refine Xv (i := 9) (enc := spE) (cv := intC) (c.fl, c.tt) 2 rfl rfl rfl (KeyIs.agg (us := [.int .i64 c.fl, .int .i64 c.tt]) rfl) rfl uMSt Xb ?_
                refine Qj ?_
                refine XV ?_ Qr
                refine Xv (i := 8) (enc := spE) (cv := adrF) (c.fl, c.tt) c.fr rfl rfl rfl (KeyIs.agg (us := [.int .i64 c.fl, .int .i64 c.tt]) rfl) rfl uMAd Xb ?_
                refine Qj ?_
                refine XY (hK _ _ ?_)
                (refine Qb (Qb ?_))
                exact Qt hM _ es (Qc 3 (Qc 2 (by exact Qu rfl ⟨rfl, rfl, rfl, rfl, rfl, trivial⟩)))
              refine XV ?_ Qr
              refine Xv (i := 9) (enc := spE) (cv := intC) (c.fl, c.tt) 2 rfl rfl rfl (KeyIs.agg (us := [.int .i64 c.fl, .int .i64 c.tt]) rfl) rfl uMSt Xb ?_
              refine Qj ?_
              refine Zq ?_
              refine QJ rfl rfl rfl rfl rfl (by with_reducible exact lMAd) rfl ?_
              refine Qj ?_
              refine XV ?_ Qr
              refine Xv (i := 8) (enc := spE) (cv := adrF) (c.fl, c.tt) c.fr rfl rfl rfl (KeyIs.agg (us := [.int .i64 c.fl, .int .i64 c.tt]) rfl) rfl uMAd Xb ?_
              refine Qj ?_
              refine XY (hK _ _ ?_)
              (refine Qb (Qb ?_))
              exact Qt hM _ es (Qc 3 (Qc 2 (by exact Qu rfl ⟨rfl, rfl, rfl, rfl, rfl, trivial⟩)))
            refine XV ?_ Qr
            refine Xv (i := 9) (enc := spE) (cv := intC) (c.fl, c.tt) 2 rfl rfl rfl (KeyIs.agg (us := [.int .i64 c.fl, .int .i64 c.tt]) rfl) rfl uMSt Xb ?_
            refine Qj ?_
            refine Zq ?_
            refine QJ rfl rfl rfl rfl rfl (by with_reducible exact lMAd) rfl ?_
            refine Qj ?_
            refine Zq ?_
            refine Qa (n := 2) rfl rfl rfl rfl rfl (by with_reducible exact YV) rfl ?_
            refine Qj ?_
            refine XV ?_ Qr
            refine Xv (i := 8) (enc := spE) (cv := adrF) (c.fl, c.tt) c.fr rfl rfl rfl (KeyIs.agg (us := [.int .i64 c.fl, .int .i64 c.tt]) rfl) rfl uMAd Xb ?_
            refine Qj ?_
            refine XY (hK _ _ ?_)
            (refine Qb (Qb ?_))
            exact Qt hM _ es (Qc 3 (Qc 2 (by exact Qu rfl ⟨rfl, rfl, rfl, rfl, rfl, trivial⟩)))
          refine XV ?_ Qr
          refine Xv (i := 9) (enc := spE) (cv := intC) (c.fl, c.tt) 2 rfl rfl rfl (KeyIs.agg (us := [.int .i64 c.fl, .int .i64 c.tt]) rfl) rfl uMSt Xb ?_
          refine Qj ?_
          refine Zq ?_
          refine QJ rfl rfl rfl rfl rfl (by with_reducible exact lMAd) rfl ?_
          refine Qj ?_
          refine Zq ?_
          refine Qa (n := 2) rfl rfl rfl rfl rfl (by with_reducible exact YV) rfl ?_
          refine Qj ?_
          refine Zq ?_
          refine QJ rfl rfl rfl rfl rfl (by with_reducible exact Q9) rfl ?_
          refine Qj ?_
          refine XV ?_ Qr
          refine Xv (i := 8) (enc := spE) (cv := adrF) (c.fl, c.tt) c.fr rfl rfl rfl (KeyIs.agg (us := [.int .i64 c.fl, .int .i64 c.tt]) rfl) rfl uMAd Xb ?_
          refine Qj ?_
          refine XY (hK _ _ ?_)
          (refine Qb (Qb ?_))
          exact Qt hM _ es (Qc 3 (Qc 2 (by exact Qu rfl ⟨rfl, rfl, rfl, rfl, rfl, trivial⟩)))
        · rw [if_neg h2] at es
          refine Qw ?_
          refine Xu (by with_reducible exact mixed) 13 (.p 0 (.p 1 (.p 2 (.p 3 (.p 7 (.p 8 (.f 4 (.f 5 (.f 6 (.f 9 (.p 10 (.p 11 (.p 12 .done))))))))))))) (by kernel_rfl) (fun K hK => ?_)
          (refine Qq rfl rfl rfl ?_; refine Qk ieql rfl rfl rfl rfl ?_; refine Qq rfl rfl rfl ?_)
          refine Q5 67 (p := kn = 2) rfl (fun h3 => ?_) (fun h3 => ?_)
          · (refine QV rfl rfl rfl (by with_reducible first | exact fV0 | exact fV1 | exact fV2) rfl ?_; refine QV rfl rfl rfl (by with_reducible first | exact fS0 | exact fS1 | exact fS2 | exact fS3 | exact fS4 | exact fS5 | exact fS6 | exact fS7 | exact fS8 | exact fS9 | exact fS10 | exact fS11 | exact fN0 | exact fN1 | exact fN2 | exact fN3 | exact fN4 | exact fN5) rfl ?_; refine X2 rfl rfl (by with_reducible first | exact fN0 | exact fN1 | exact fN2 | exact fN3 | exact fN4 | exact fN5) rfl ?_; refine QJ rfl rfl rfl rfl rfl (by with_reducible first | exact lMSt | exact lMAd) rfl ?_; refine Qa (n := 2) rfl rfl rfl rfl rfl (by with_reducible exact YV) rfl ?_)
            refine Ops.lookM (i := 8) (cv := adrF) (enc := spE) 0 (c.fl, c.tt) rfl rfl rfl rfl (KeyIs.agg (us := [.int .i64 c.fl, .int .i64 c.tt]) rfl) uMAd z0Adr (fun _ _ => rfl) Xb rfl ?_
            generalize (look1 m.1 (c.fl, c.tt)).getD 0 = a at es ⊢
            (refine QJ rfl rfl rfl rfl rfl (by with_reducible first | exact lInt | exact Q9 | exact Q6 | exact lRess) rfl ?_; refine Qk ineq rfl rfl rfl rfl ?_; refine QZ rfl rfl rfl rfl ?_; refine Qv rfl rfl rfl ?_; refine Qj (hK _ _ (Qz ?_)); clear hK K)
            refine Q2 rfl (fun h4 => ?_) (fun h4 => ?_)
            · rw [if_pos ⟨h3, fun h => h4 (by rw [h])⟩] at es
              refine St.drawQ (by with_reducible exact mixed) [6, 7] (.p 0 (.p 3 (.f 1 (.f 2 (.m 4 (.m 5 (.a 6 (.a 7 .done .non) .non) (.a 6 (.f 5 (.a 7 .done .non)) .non)) (.m 5 (.m 4 (.a 6 (.a 7 .done .non) .non) (.a 6 (.f 4 (.a 7 .done .non)) .non)) (.a 6 (.f 4 (.f 5 (.a 7 .done .non))) .non))))))) (by kernel_rfl) (fun K hK => ?_)
              refine YZ ?_
              refine QV rfl rfl rfl (by with_reducible exact fV2) rfl ?_
              refine Qj ?_
              refine YZ ?_
              refine QV rfl rfl rfl (by with_reducible exact fV1) rfl ?_
              refine Qj ?_
              refine Zq ?_
              refine QJ rfl rfl rfl rfl rfl (by with_reducible exact lMSt) rfl ?_
              refine Qj ?_
              refine Zq ?_
              refine Qa (n := 2) rfl rfl rfl rfl rfl (by with_reducible exact YV) rfl ?_
              refine Qj ?_
              refine Xs ?_ ?_
              · refine QJ rfl rfl rfl rfl rfl (by with_reducible exact lMAd) rfl ?_
                refine Qj ?_
                refine Xs ?_ ?_
                · refine Qa (n := 2) rfl rfl rfl rfl rfl (by with_reducible exact YV) rfl ?_
                  refine Qj ?_
                  refine XV ?_ Qr
                  refine Xv (i := 9) (enc := spE) (cv := intC) (c.fl, c.tt) 3 rfl rfl rfl (KeyIs.agg (us := [.int .i64 c.fl, .int .i64 c.tt]) rfl) rfl uMSt Xb ?_
                  refine Qj ?_
                  refine XV ?_ Qr
                  refine Xv (i := 8) (enc := spE) (cv := adrF) (c.fl, c.tt) 0 rfl rfl rfl (KeyIs.agg (us := [.int .i64 c.fl, .int .i64 c.tt]) rfl) rfl uMAd Xb ?_
                  refine Qj ?_
                  refine XY (hK _ _ ?_)
                  (refine Qb (Qb ?_))
                  exact Qt hM _ es (Qc 3 (Qc 2 (by exact Qu rfl ⟨rfl, rfl, rfl, rfl, rfl, trivial⟩)))
                refine XV ?_ Qr
                refine Xv (i := 9) (enc := spE) (cv := intC) (c.fl, c.tt) 3 rfl rfl rfl (KeyIs.agg (us := [.int .i64 c.fl, .int .i64 c.tt]) rfl) rfl uMSt Xb ?_
                refine Qj ?_
                refine Zq ?_
                refine Qa (n := 2) rfl rfl rfl rfl rfl (by with_reducible exact YV) rfl ?_
                refine Qj ?_
                refine XV ?_ Qr
                refine Xv (i := 8) (enc := spE) (cv := adrF) (c.fl, c.tt) 0 rfl rfl rfl (KeyIs.agg (us := [.int .i64 c.fl, .int .i64 c.tt]) rfl) rfl uMAd Xb ?_
                refine Qj ?_
                refine XY (hK _ _ ?_)
                (refine Qb (Qb ?_))
                exact Qt hM _ es (Qc 3 (Qc 2 (by exact Qu rfl ⟨rfl, rfl, rfl, rfl, rfl, trivial⟩)))
              refine Xs ?_ ?_
              · refine Qa (n := 2) rfl rfl rfl rfl rfl (by with_reducible exact YV) rfl ?_
                refine Qj ?_
                refine Xs ?_ ?_
                · refine QJ rfl rfl rfl rfl rfl (by with_reducible exact lMAd) rfl ?_
                  refine Qj ?_
                  refine XV ?_ Qr
                  refine Xv (i := 9) (enc := spE) (cv := intC) (c.fl, c.tt) 3 rfl rfl rfl (KeyIs.agg (us := [.int .i64 c.fl, .int .i64 c.tt]) rfl) rfl uMSt Xb ?_
                  refine Qj ?_
                  refine XV ?_ Qr
                  refine Xv (i := 8) (enc := spE) (cv := adrF) (c.fl, c.tt) 0 rfl rfl rfl (KeyIs.agg (us := [.int .i64 c.fl, .int .i64 c.tt]) rfl) rfl uMAd Xb ?_
                  refine Qj ?_
                  refine XY (hK _ _ ?_)
                  (refine Qb (Qb ?_))
                  exact Qt hM _ es (Qc 3 (Qc 2 (by exact Qu rfl ⟨rfl, rfl, rfl, rfl, rfl, trivial⟩)))
                refine XV ?_ Qr
                refine Xv (i := 9) (enc := spE) (cv := intC) (c.fl, c.tt) 3 rfl rfl rfl (KeyIs.agg (us := [.int .i64 c.fl, .int .i64 c.tt]) rfl) rfl uMSt Xb ?_
                refine Qj ?_
                refine Zq ?_
                refine QJ rfl rfl rfl rfl rfl (by with_reducible exact lMAd) rfl ?_
                refine Qj ?_
                refine XV ?_ Qr
                refine Xv (i := 8) (enc := spE) (cv := adrF) (c.fl, c.tt) 0 rfl rfl rfl (KeyIs.agg (us := [.int .i64 c.fl, .int .i64 c.tt]) rfl) rfl uMAd Xb ?_
                refine Qj ?_
                refine XY (hK _ _ ?_)
                (refine Qb (Qb ?_))
                exact Qt hM _ es (Qc 3 (Qc 2 (by exact Qu rfl ⟨rfl, rfl, rfl, rfl, rfl, trivial⟩)))
              refine XV ?_ Qr
              refine Xv (i := 9) (enc := spE) (cv := intC) (c.fl, c.tt) 3 rfl rfl rfl (KeyIs.agg (us := [.int .i64 c.fl, .int .i64 c.tt]) rfl) rfl uMSt Xb ?_
              refine Qj ?_
              refine Zq ?_
              refine QJ rfl rfl rfl rfl rfl (by with_reducible exact lMAd) rfl ?_
              refine Qj ?_
              refine Zq ?_
              refine Qa (n := 2) rfl rfl rfl rfl rfl (by with_reducible exact YV) rfl ?_
              refine Qj ?_
              refine XV ?_ Qr
              refine Xv (i := 8) (enc := spE) (cv := adrF) (c.fl, c.tt) 0 rfl rfl rfl (KeyIs.agg (us := [.int .i64 c.fl, .int .i64 c.tt]) rfl) rfl uMAd Xb ?_
              refine Qj ?_
              refine XY (hK _ _ ?_)
              (refine Qb (Qb ?_))
              exact Qt hM _ es (Qc 3 (Qc 2 (by exact Qu rfl ⟨rfl, rfl, rfl, rfl, rfl, trivial⟩)))
            · rw [if_neg (fun h => h.2 (Fin.ext (by omega)))] at es
              (refine Q1 (Qb (Qb ?_)))
              exact Qt hM _ es (Qc 3 (Qc 2 (by exact Qu rfl ⟨rfl, rfl, rfl, rfl, rfl, trivial⟩)))
          · rw [if_neg (fun h => h3 h.1)] at es
            (refine Qy rfl rfl rfl ?_; refine Qy rfl rfl rfl ?_; refine Qy rfl rfl rfl ?_; refine Qy rfl rfl rfl ?_; refine Qy rfl rfl rfl ?_; refine Qy rfl rfl rfl ?_; refine Qy rfl rfl rfl ?_; refine Qy rfl rfl rfl ?_; refine QK rfl rfl rfl rfl ?_; refine Qv rfl rfl rfl ?_; refine Qj (hK _ _ (Qz (Xx rfl (Q1 (Qb (Qb ?_)))))); clear hK K)
            exact Qt hM _ es (Qc 3 (Qc 2 (by exact Qu rfl ⟨rfl, rfl, rfl, rfl, rfl, trivial⟩)))
  · have hi' : i = l.length := by omega
    have el : (l.take i).foldl (lookS e) ([], []) = l.foldl (lookS e) ([], []) := by rw [hi', List.take_length]
    rw [el]
    refine St.frzM 8 1 1 rfl rfl rfl (fun _ h => h.elim) ?_
    refine St.frzM 9 1 2 rfl rfl rfl (fun _ h => h.elim) ?_
    (refine Qn (Qz (Qw (Qx fun K hK => ?_))); refine Qa (n := 3) rfl rfl rfl rfl rfl (by with_reducible exact lView) rfl ?_; refine Qe 3 rfl rfl rfl rfl rfl (by with_reducible exact szView) rfl rfl ?_; refine Qj (hK _ _ (Qz (Q0 ?_))); clear hK K)
    refine Fin.end [_] rfl (Qi (n := 3) rfl rfl (by with_reducible exact lView) rfl QX) rfl rfl
end Go.Proofs.YtlkdkbdgnjcopaaGreat
namespace Go.Proofs.YtlkdkbdgnjcopaaGreat
open Go.Own Go.Limbs
abbrev ESp := Tk × Int × Int
def plS (r : Rs) : ESp := (trOf r, r.fl, r.tt)
def plB (r : Rs) : Bool := r.an && usR r
abbrev SeenM := List (ESp × Fin 4294967296)
def clashG : SeenM → List Rs → Nat
  | _, [] => 0
  | m, r :: l =>
    if plB r = false then clashG m l + 1
    else if (look1 m (plS r)).isSome = true ∧ (look1 m (plS r)).getD 0 ≠ r.fr then 0
    else clashG (ins m (plS r) r.fr) l + 1
def conB (a b : Rs) : Bool := (plB a && plB b) && (decide (plS a = plS b) && decide (a.fr ≠ b.fr))
def witG (o : List Rs) : Option Nat :=
  let k := clashG [] o
  if k < o.length then (o.take k).findIdx? (fun a => conB a (o.getD k rs0)) else none
theorem clashG_le : ∀ (l : List Rs) (m : SeenM), clashG m l ≤ l.length
  | [], _ => Nat.le_refl _
  | r :: l, m => by
    simp only [clashG, List.length_cons]
    split
    · have := clashG_le l m; omega
    · split
      · omega
      · have := clashG_le l (ins m (plS r) r.fr); omega
theorem usR_tt {r : Rs} (h : usR r = true) : 1 ≤ r.tt ∧ r.tt ≤ 255 := by
  simp only [usR, okR, Bool.and_eq_true, decide_eq_true_eq] at h
  have h1 := h.2.1
  unfold ckE at h1
  split at h1
  · cases h1
  · rename_i h2; unfold P1 at h2; omega
theorem hasS_tt {l : List Rs} {fl tt : Int} (h : hasS (lookG l).2 fl tt = true) : 1 ≤ tt ∧ tt ≤ 255 := by
  unfold hasS at h
  cases e : look1 (lookG l).2 (fl, tt) with
  | none => rw [e] at h; simp at h
  | some v =>
    obtain ⟨_, r, _, hu, hs⟩ := lookG_keys l _ _ e
    injection hs with h1 h2
    rw [h2]; exact usR_tt hu
theorem pathG_len (m : AdM × StM) (fl : Int) : ∀ (k : Nat) (tt : Int), (pathG m fl k tt).length ≤ k
  | 0, _ => Nat.le_refl _
  | k + 1, tt => by
    unfold pathG
    split
    · have := pathG_len m fl k (tt + 1); simp only [List.length_cons]; omega
    · exact Nat.zero_le _
attribute [local irreducible] Go.Own.Fin Ok OkB OkF OkL OkN OkT Ops St
theorem goPath : InGo Tryz.prog 93 := InGo.of Tryz.func93 rfl (by decide)
set_option maxHeartbeats 4000000 in
theorem Path_ok (l : List Rs) (fl : Int) (hl : l.length ≤ 100000) : OkF Tryz.prog 93 [rssC l, intC fl] 27 1 (adrs (pathF l fl)) := by
  have hL := Look_ok l hl
  have hb : ∀ tt, hasS (lookG l).2 fl tt = true → 1 ≤ tt ∧ tt ≤ 255 := fun tt h => hasS_tt h
  have e0 : pathF l fl = pathG (lookG l) fl 256 1 := rfl
  rw [e0]
  clear e0
  generalize endF l = e at hL
  generalize lookG l = m at hL hb ⊢
  refine OkF.enter Tryz.func93 rfl _ Tryz.ntmps93 rfl ?_
  intro S w
  (refine Qw (Qx fun K hK => ?_); refine Qv rfl rfl rfl ?_; refine Qj (hK _ _ (Qz (Qw ?_))); clear hK K; refine Qx (fun K hK => ?_); refine Qq rfl rfl rfl ?_)
  refine QW goLook hL rfl rfl rfl rfl ?_
  (refine Qh 0 rfl rfl (by with_reducible exact zvView) rfl rfl rfl ?_; refine Qe 3 rfl rfl rfl rfl rfl (by with_reducible exact szView) rfl rfl ?_; refine Qj (hK _ _ (Qz (Qw ?_))); clear hK K; refine Qx (fun K hK => ?_); refine Qv rfl rfl rfl ?_; refine Qj (hK _ _ (Qz (Qw (Qw ?_)))); clear hK K; refine Qx (fun K hK => ?_); refine Qv rfl rfl rfl ?_; refine Qj (hK _ _ (Qz (Q4 ?_))); clear hK K)
  refine Xf 6 1 27 1 rfl rfl rfl ?_
  refine Xz (α := List Ad) (fun pre => pre.length ≤ 255 ∧ pathG m fl 256 1 = pre ++ pathG m fl (256 - pre.length) (pre.length + 1))
    (fun pre => [(1, .ct (intC fl)), (5, .own 0), (6, .own 1), (7, .ct (intC (pre.length + 1)))])
    (fun pre => [(1, .row 27 1 (adrs pre)), (0, .box 184 [intC e, .fr (mapT (adM m.1)), .fr (mapT (stM m.2))])]) (fun pre => 256 - pre.length) [] ⟨Nat.zero_le _, rfl⟩ (by exact Qu rfl ⟨rfl, rfl, rfl, rfl, trivial⟩) ?_
  intro pre ⟨hp, hq⟩
  try dsimp only
  have hH := Has_ok e fl (pre.length + 1) m
  have hb1 := hb (pre.length + 1)
  have hun : ∀ k, pathG m fl (k + 1) (pre.length + 1) = if hasS m.2 fl (pre.length + 1) then (look1 m.1 (fl, (pre.length : Int) + 1)).getD 0 :: pathG m fl k (pre.length + 1 + 1) else [] := fun _ => rfl
  generalize hasS m.2 fl (pre.length + 1) = hs at hH hb1 hun
  (refine Qw (Qw (Qx fun K hK => ?_)); refine Qa (n := 3) rfl rfl rfl rfl rfl (by with_reducible exact lView) rfl ?_; refine Qq rfl rfl rfl ?_; refine Qq rfl rfl rfl ?_)
  refine QW goHas hH rfl rfl rfl rfl ?_
  (refine Qj (hK _ _ (Qz ?_)); clear hK K)
  refine XX rfl (fun h => ?_) (fun h => ?_)
  · have hl2 := hb1 h
    obtain ⟨k, hk⟩ : ∃ k, 256 - pre.length = k + 1 := ⟨255 - pre.length, by omega⟩
    rw [hk, hun, if_pos h] at hq
    (refine Q1 (Qz (Qw (Q4 (Qx fun K hK => ?_)))); refine Qq rfl rfl rfl ?_; refine QV rfl rfl rfl (by with_reducible first | exact fV0 | exact fV1 | exact fV2) rfl ?_; refine QJ rfl rfl rfl rfl rfl (by with_reducible first | exact lMSt | exact lMAd) rfl ?_; refine Qq rfl rfl rfl ?_; refine Qq rfl rfl rfl ?_)
    refine Xq rfl (by with_reducible exact bSpot) rfl (.one rfl rfl rfl rfl (.one rfl rfl rfl rfl .nil)) rfl ?_
    refine Ops.lookF (cv := adrF) (enc := spE) 0 (fl, (pre.length : Int) + 1) rfl rfl rfl (KeyIs.agg (us := [.int .i64 fl, .int .i64 ((pre.length : Int) + 1)]) rfl) uMAd z0Adr (fun _ _ => rfl) Xb rfl ?_
    generalize (look1 m.1 (fl, (pre.length : Int) + 1)).getD 0 = a at hq ⊢
    skip
    refine Xp rfl rfl (by with_reducible exact sAdrs) rfl rfl rfl ?_
    refine Qs pre.length (adrs (pre ++ [a])) rfl rfl rfl rfl (by with_reducible exact sAdrs) (by simp [adrs]) rfl (by omega) (by omega) (by simp [adrs]) rfl ?_
    (refine Qv rfl rfl rfl ?_; refine Qj (hK _ _ (Qz ?_)); clear hK K; refine Qx (fun K hK => ?_); refine Qq rfl rfl rfl ?_; refine Qk (iadd (by omega) (by omega)) rfl rfl rfl rfl ?_; refine Qv rfl rfl rfl ?_; refine Qj (hK _ _ (Q3 ?_)); clear hK K)
    refine Q7 (pre ++ [a]) (by rw [List.length_append]; simp; omega) ⟨by rw [List.length_append]; simp; omega, ?_⟩ (by exact Qu rfl ⟨rfl, rfl, rfl, by simp only [List.length_append, List.length_cons, List.length_nil, Int.natCast_add]; rfl, trivial⟩)
    rw [hq, List.length_append, List.append_assoc]
    have : 256 - (pre.length + [a].length) = k := by simp; omega
    rw [this]
    simp
  · obtain ⟨k, hk⟩ : ∃ k, 256 - pre.length = k + 1 := ⟨255 - pre.length, by omega⟩
    rw [hk, hun, if_neg (by rw [h]; decide), List.append_nil] at hq
    (refine Qn (Qz (Qw (Qx fun K hK => ?_))); refine Qq rfl rfl rfl ?_; refine Qv rfl rfl rfl ?_; refine Qj (hK _ _ (Qz (Q0 ?_))); clear hK K)
    refine Fin.retF rfl rfl (by rw [hq]; rfl) rfl
abbrev esI (s : ESp) : List Int := [s.1.va, (s.1.ds.val : Int), s.1.pr, s.2.1, s.2.2]
abbrev esK : List IntKind := [.i64, .u32, .i64] ++ [.i64, .i64]
abbrev esE (s : ESp) : Value := Go.Own.encI esK (esI s)
abbrev esCs (s : ESp) : List CT := [intC s.1.va, adrF s.1.ds, intC s.1.pr, intC s.2.1, intC s.2.2]
abbrev esC (s : ESp) : CT := .fr (aggT (esCs s))
abbrev esV (s : ESp) : List Value := [.int .i64 s.1.va, .int .u32 (s.1.ds.val : Int), .int .i64 s.1.pr, .int .i64 s.2.1, .int .i64 s.2.2]
theorem eqES : EqF Tryz.prog 223 86 [.i64, .u32, .i64] [.i64, .i64] := ⟨by kernel_rfl, by kernel_rfl, by kernel_rfl, by kernel_rfl, by kernel_rfl, by kernel_rfl, by kernel_rfl, by kernel_rfl⟩
theorem esI_inj (a b : ESp) (h : esI a = esI b) : a = b := by
  obtain ⟨⟨a1, a2, a3⟩, a4, a5⟩ := a
  obtain ⟨⟨b1, b2, b3⟩, b4, b5⟩ := b
  simp only [esI, List.cons.injEq, and_true, Int.ofNat_inj, Fin.val_inj] at h
  obtain ⟨h1, h2, h3, h4, h5⟩ := h
  rw [h1, h2, h3, h4, h5]
theorem keyES : KeyT Tryz.prog 223 esE := eqES.flat.key esI (fun _ => rfl) esI_inj
theorem gES : Tryz.prog.eqGuardType Tryz.prog.depth 223 = false := by kernel_rfl
theorem lES : LdN Tryz.prog 223 5 := LdN.of _ Tryz.underlying223 rfl (by kernel_rfl)
theorem szES : (Tryz.prog.info? 223).map (·.size) = some 5 := by kernel_rfl
theorem zvES : (Tryz.prog.info? 223).map (·.zero) = some (some (.agg #[.int .i64 0, .int .u32 0, .int .i64 0, .int .i64 0, .int .i64 0])) := by kernel_rfl
theorem bES : bInfo Tryz.prog 223 = some (.agg #[.int .i64 0, .int .u32 0, .int .i64 0, .int .i64 0, .int .i64 0], [(0, some 3), (3, some 1), (4, some 1)]) := by kernel_rfl
theorem uMSeen : Tryz.prog.underlying 221 = some (.map 223 27) := Tryz.underlying221
theorem goPlace : InGo Tryz.prog 180 := InGo.of Tryz.func180 rfl (by decide)
set_option maxHeartbeats 4000000 in
theorem Place_ok (r : Rs) : Ok Tryz.prog 180 [rsC r] (.fr (tupT [esC (plS r), boolC (plB r)])) := by
  have hT := TraceOf_ok r
  have hU := Usable_ok r
  have e0 : plB r = (r.an && usR r) := rfl
  generalize usR r = ub at hU e0
  refine Ok.enter Tryz.func180 rfl _ Tryz.ntmps180 rfl ?_
  intro S w
  (refine Qw (Qx fun K hK => ?_); refine Xk 0 rfl rfl rfl rfl rfl rfl rfl ?_)
  refine Qh 1 rfl rfl (by with_reducible exact zvES) rfl rfl rfl ?_
  (refine Qv rfl rfl rfl ?_; refine Qj (hK _ _ (Qz (Qw ?_))); clear hK K)
  refine Xu (by with_reducible exact mixed) 13 (.p 2 (.p 4 (.p 7 (.f 0 (.f 3 (.f 5 (.fork 1 (.p 6 (.m 8 (.p 9 (.m 10 (.m 11 (.p 12 (.a 13 (.p 14 .done)))))))) 8 (.m 1 (.p 6 (.p 9 (.m 10 (.m 11 (.p 12 (.a 13 (.p 14 .done))))))))))))))) (by kernel_rfl) (fun K hK => ?_)
  (refine QV rfl rfl rfl (by with_reducible first | exact fS0 | exact fS1 | exact fS2 | exact fS3 | exact fS4 | exact fS5 | exact fS6 | exact fS7 | exact fS8 | exact fS9 | exact fS10 | exact fS11 | exact fN0 | exact fN1 | exact fN2 | exact fN3 | exact fN4 | exact fN5) rfl ?_; refine QV rfl rfl rfl (by with_reducible first | exact fS0 | exact fS1 | exact fS2 | exact fS3 | exact fS4 | exact fS5 | exact fS6 | exact fS7 | exact fS8 | exact fS9 | exact fS10 | exact fS11 | exact fN0 | exact fN1 | exact fN2 | exact fN3 | exact fN4 | exact fN5) rfl ?_; refine QV rfl rfl rfl (by with_reducible first | exact fS0 | exact fS1 | exact fS2 | exact fS3 | exact fS4 | exact fS5 | exact fS6 | exact fS7 | exact fS8 | exact fS9 | exact fS10 | exact fS11 | exact fN0 | exact fN1 | exact fN2 | exact fN3 | exact fN4 | exact fN5) rfl ?_; refine Qa (n := 17) rfl rfl rfl rfl rfl (by with_reducible exact lRes) rfl ?_; refine QJ rfl rfl rfl rfl rfl (by with_reducible first | exact lInt | exact Q9 | exact Q6 | exact lRess) rfl ?_; refine QJ rfl rfl rfl rfl rfl (by with_reducible first | exact lInt | exact Q9 | exact Q6 | exact lRess) rfl ?_)
  refine Ops.fork ?_ ?_
  · refine QW goTraceOf hT rfl rfl rfl rfl ?_
    refine Xq rfl (by with_reducible exact bES) rfl (.agg rfl rfl rfl rfl (.one rfl rfl rfl rfl (.one rfl rfl rfl rfl .nil))) rfl ?_
    (refine QJ rfl rfl rfl rfl rfl (by with_reducible first | exact lInt | exact Q9 | exact Q6 | exact lRess) rfl ?_; refine Qq rfl rfl rfl ?_)
    refine X3 13 (b := r.an) rfl (fun h => ?_) (fun h => ?_)
    · (refine Qa (n := 17) rfl rfl rfl rfl rfl (by with_reducible exact lRes) rfl ?_)
      refine QW goUsable hU rfl rfl rfl rfl ?_
      (refine QZ rfl rfl rfl rfl ?_)
      refine Qe 5 rfl rfl rfl rfl rfl (by with_reducible exact szES) rfl rfl ?_
      (refine Qv rfl rfl rfl ?_; refine Qj (hK _ _ (Qz (Q0 ?_))); clear hK K)
      refine QU [_, _] rfl (Qi (n := 5) rfl rfl (by with_reducible exact lES) rfl (QQ rfl QX)) (by rw [e0, h, Bool.true_and]; rfl) rfl
    · (refine Qy rfl rfl rfl ?_; refine Qy rfl rfl rfl ?_; refine QK rfl rfl rfl rfl ?_)
      refine Qe 5 rfl rfl rfl rfl rfl (by with_reducible exact szES) rfl rfl ?_
      (refine Qv rfl rfl rfl ?_; refine Qj (hK _ _ (Qz (Q0 ?_))); clear hK K)
      refine QU [_, _] rfl (Qi (n := 5) rfl rfl (by with_reducible exact lES) rfl (QQ rfl QX)) (by rw [e0, h, Bool.false_and]; rfl) rfl
  · (refine QJ rfl rfl rfl rfl rfl (by with_reducible first | exact lInt | exact Q9 | exact Q6 | exact lRess) rfl ?_)
    refine QW goTraceOf hT rfl rfl rfl rfl ?_
    refine Xq rfl (by with_reducible exact bES) rfl (.agg rfl rfl rfl rfl (.one rfl rfl rfl rfl (.one rfl rfl rfl rfl .nil))) rfl ?_
    (refine Qq rfl rfl rfl ?_)
    refine X3 13 (b := r.an) rfl (fun h => ?_) (fun h => ?_)
    · (refine Qa (n := 17) rfl rfl rfl rfl rfl (by with_reducible exact lRes) rfl ?_)
      refine QW goUsable hU rfl rfl rfl rfl ?_
      (refine QZ rfl rfl rfl rfl ?_)
      refine Qe 5 rfl rfl rfl rfl rfl (by with_reducible exact szES) rfl rfl ?_
      (refine Qv rfl rfl rfl ?_; refine Qj (hK _ _ (Qz (Q0 ?_))); clear hK K)
      refine QU [_, _] rfl (Qi (n := 5) rfl rfl (by with_reducible exact lES) rfl (QQ rfl QX)) (by rw [e0, h, Bool.true_and]; rfl) rfl
    · (refine Qy rfl rfl rfl ?_; refine Qy rfl rfl rfl ?_; refine QK rfl rfl rfl rfl ?_)
      refine Qe 5 rfl rfl rfl rfl rfl (by with_reducible exact szES) rfl rfl ?_
      (refine Qv rfl rfl rfl ?_; refine Qj (hK _ _ (Qz (Q0 ?_))); clear hK K)
      refine QU [_, _] rfl (Qi (n := 5) rfl rfl (by with_reducible exact lES) rfl (QQ rfl QX)) (by rw [e0, h, Bool.false_and]; rfl) rfl
theorem goContradict : InGo Tryz.prog 146 := InGo.of Tryz.func146 rfl (by decide)
set_option maxHeartbeats 4000000 in
theorem Contradict_ok (a b : Rs) : Ok Tryz.prog 146 [rsC a, rsC b] (boolC (conB a b)) := by
  have hA := Place_ok a
  have hB := Place_ok b
  have e0 : conB a b = ((plB a && plB b) && (decide (plS a = plS b) && decide (a.fr ≠ b.fr))) := rfl
  have e1 : decide (esI (plS a) = esI (plS b)) = decide (plS a = plS b) := decide_eq_decide.2 ⟨esI_inj _ _, fun h => by rw [h]⟩
  generalize plS a = sa at hA e0 e1
  generalize plS b = sb at hB e0 e1
  generalize plB a = pa at hA e0
  generalize plB b = pb at hB e0
  refine Ok.enter Tryz.func146 rfl _ Tryz.ntmps146 rfl ?_
  intro S w
  (refine Qw (Qx fun K hK => ?_); refine Xk 0 rfl rfl rfl rfl rfl rfl rfl ?_; refine Xk 1 rfl rfl rfl rfl rfl rfl rfl ?_; refine Qv rfl rfl rfl ?_; refine Qj (hK _ _ (Qz (Qw ?_))); clear hK K; refine Qx (fun K hK => ?_); refine Qa (n := 17) rfl rfl rfl rfl rfl (by with_reducible exact lRes) rfl ?_)
  refine QW goPlace hA rfl rfl rfl rfl ?_
  (refine Qq rfl rfl rfl ?_; refine Qf rfl rfl rfl rfl ?_; refine Qf rfl rfl rfl rfl ?_)
  refine Qh 2 rfl rfl (by with_reducible exact zvES) rfl rfl rfl ?_
  refine Qe 5 rfl rfl rfl rfl rfl (by with_reducible exact szES) rfl rfl ?_
  (refine Qv rfl rfl rfl ?_; refine Qj (hK _ _ (Qz (Qw ?_))); clear hK K; refine Qx (fun K hK => ?_); refine Qa (n := 17) rfl rfl rfl rfl rfl (by with_reducible exact lRes) rfl ?_)
  refine QW goPlace hB rfl rfl rfl rfl ?_
  (refine Qq rfl rfl rfl ?_; refine Qf rfl rfl rfl rfl ?_; refine Qf rfl rfl rfl rfl ?_)
  refine Qh 3 rfl rfl (by with_reducible exact zvES) rfl rfl rfl ?_
  refine Qe 5 rfl rfl rfl rfl rfl (by with_reducible exact szES) rfl rfl ?_
  (refine Qv rfl rfl rfl ?_; refine Qj (hK _ _ (Qz (Qw ?_))); clear hK K; refine Qx (fun K hK => ?_); refine Qq rfl rfl rfl ?_; refine Qq rfl rfl rfl ?_)
  refine X3 20 (b := pa) rfl (fun h => ?_) (fun h => ?_)
  · (refine Qq rfl rfl rfl ?_; refine QZ rfl rfl rfl rfl ?_; refine Qq rfl rfl rfl ?_)
    refine X3 23 (b := pb) rfl (fun h2 => ?_) (fun h2 => ?_)
    · skip
      refine Qa (n := 5) rfl rfl rfl rfl rfl (by with_reducible exact lES) rfl ?_
      refine Qa (n := 5) rfl rfl rfl rfl rfl (by with_reducible exact lES) rfl ?_
      refine Ops.eqK (ks := esK) (esI sa) (esI sb) rfl rfl rfl rfl rfl eqES.flat gES rfl ?_
      rw [e1]
      (refine QZ rfl rfl rfl rfl ?_; refine Qq rfl rfl rfl ?_)
      refine Q5 28 (p := sa = sb) rfl (fun h3 => ?_) (fun h3 => ?_)
      · (refine QV rfl rfl rfl (by with_reducible first | exact fS0 | exact fS1 | exact fS2 | exact fS3 | exact fS4 | exact fS5 | exact fS6 | exact fS7 | exact fS8 | exact fS9 | exact fS10 | exact fS11 | exact fN0 | exact fN1 | exact fN2 | exact fN3 | exact fN4 | exact fN5) rfl ?_; refine X2 rfl rfl (by with_reducible first | exact fN0 | exact fN1 | exact fN2 | exact fN3 | exact fN4 | exact fN5) rfl ?_; refine QJ rfl rfl rfl rfl rfl (by with_reducible first | exact lInt | exact Q9 | exact Q6 | exact lRess) rfl ?_; refine QV rfl rfl rfl (by with_reducible first | exact fS0 | exact fS1 | exact fS2 | exact fS3 | exact fS4 | exact fS5 | exact fS6 | exact fS7 | exact fS8 | exact fS9 | exact fS10 | exact fS11 | exact fN0 | exact fN1 | exact fN2 | exact fN3 | exact fN4 | exact fN5) rfl ?_; refine X2 rfl rfl (by with_reducible first | exact fN0 | exact fN1 | exact fN2 | exact fN3 | exact fN4 | exact fN5) rfl ?_; refine QJ rfl rfl rfl rfl rfl (by with_reducible first | exact lInt | exact Q9 | exact Q6 | exact lRess) rfl ?_; refine Qk ineq rfl rfl rfl rfl ?_; refine QZ rfl rfl rfl rfl ?_; refine Qv rfl rfl rfl ?_; refine Qj (hK _ _ (Qz (Q0 ?_))); clear hK K)
        refine QU [_] rfl (QQ rfl QX) (by rw [e0, h, h2, decide_eq_true h3]; simp only [Bool.true_and]; rw [show (decide (a.fr ≠ b.fr)) = decide (¬((a.fr.val : Int) = b.fr.val)) from decide_eq_decide.2 ⟨fun h h' => h (Fin.ext (by omega)), fun h h' => h (by rw [h'])⟩]; rfl) rfl
      · (refine Qy rfl rfl rfl ?_; refine Qy rfl rfl rfl ?_; refine Qy rfl rfl rfl ?_; refine Qy rfl rfl rfl ?_; refine Qy rfl rfl rfl ?_; refine Qy rfl rfl rfl ?_; refine Qy rfl rfl rfl ?_; refine QK rfl rfl rfl rfl ?_; refine Qv rfl rfl rfl ?_; refine Qj (hK _ _ (Qz (Q0 ?_))); clear hK K)
        refine QU [_] rfl (QQ rfl QX) (by rw [e0, h, h2, decide_eq_false h3]; rfl) rfl
    · (refine Qy rfl rfl rfl ?_; refine Qy rfl rfl rfl ?_; refine Qy rfl rfl rfl ?_; refine QK rfl rfl rfl rfl ?_; refine Qq rfl rfl rfl ?_; refine Qy rfl rfl rfl ?_; refine Qy rfl rfl rfl ?_; refine Qy rfl rfl rfl ?_; refine Qy rfl rfl rfl ?_; refine Qy rfl rfl rfl ?_; refine Qy rfl rfl rfl ?_; refine Qy rfl rfl rfl ?_; refine QK rfl rfl rfl rfl ?_; refine Qv rfl rfl rfl ?_; refine Qj (hK _ _ (Qz (Q0 ?_))); clear hK K)
      refine QU [_] rfl (QQ rfl QX) (by rw [e0, h, h2]; rfl) rfl
  · (refine Qy rfl rfl rfl ?_; refine QK rfl rfl rfl rfl ?_; refine Qq rfl rfl rfl ?_; refine Qy rfl rfl rfl ?_; refine Qy rfl rfl rfl ?_; refine Qy rfl rfl rfl ?_; refine QK rfl rfl rfl rfl ?_; refine Qq rfl rfl rfl ?_; refine Qy rfl rfl rfl ?_; refine Qy rfl rfl rfl ?_; refine Qy rfl rfl rfl ?_; refine Qy rfl rfl rfl ?_; refine Qy rfl rfl rfl ?_; refine Qy rfl rfl rfl ?_; refine Qy rfl rfl rfl ?_; refine QK rfl rfl rfl rfl ?_; refine Qv rfl rfl rfl ?_; refine Qj (hK _ _ (Qz (Q0 ?_))); clear hK K)
    refine QU [_] rfl (QQ rfl QX) (by rw [e0, h]; rfl) rfl
attribute [local irreducible] OkM
theorem gotravel : InGo Tryz.prog 44 := InGo.of Tryz.func44 rfl (by decide)
set_option maxHeartbeats 4000000 in
theorem Travel_ok (l : List Rs) (hl : l.length ≤ 10000) : OkM Tryz.prog 44 [.ct (rssC l)] [] [] (fun v : Value => v.oneCell' = true) (fun v => .ct (travC (owF l) v)) (fun v => [(8, .mpx v (knM []))]) := by
  have hT := Traces_ok l hl
  have hO := fun t => Of_ok l t hl
  have hlen : (trsF l).length ≤ 10000 := by
    have h1 := sd_len cmpT ((l.filter okR).map trOf)
    have h2 := List.length_filter_le okR l
    rw [List.length_map] at h1
    unfold trsF; omega
  unfold owF
  generalize trsF l = ts at hT hlen ⊢
  refine OkM.enter Tryz.func44 rfl _ Tryz.ntmps44 rfl (fun i hi => by cases hi) ?_
  intro S w ρ0 hbor
  (refine Qw (Qx fun K hK => ?_); refine Qh 0 rfl rfl (by with_reducible first | exact zvTrav | exact zvCn) rfl rfl rfl ?_; refine Qj (hK _ _ (Qz (Qw ?_))); clear hK K; refine Qx (fun K hK => ?_))
  refine Ops.mkMap 6 rfl rfl rfl rfl rfl (fun v1 hv1 => ?_)
  refine Ops.mkMap 8 rfl rfl rfl rfl rfl (fun v2 hv2 => ?_)
  refine Xq rfl (by with_reducible exact bTrav) rfl (.one rfl rfl hv1 rfl (.one rfl rfl hv2 rfl .nil)) rfl ?_
  refine Qh 1 rfl rfl (by with_reducible exact zvTrav) rfl rfl rfl ?_
  refine Qe 2 rfl rfl rfl rfl (by show (Value.oneCell' v1 && (Value.oneCell' v2 && true)) = true; rw [hv1, hv2]; rfl) (by with_reducible exact szTrav) rfl rfl ?_
  (refine Qj (hK _ _ (Qz (Qw (Qw ?_)))); clear hK K; refine Qx (fun K hK => ?_); refine Qq rfl rfl rfl ?_)
  refine Z2 3 goTraces hT rfl rfl rfl rfl rfl rfl ?_
  refine ZJ 3 _ rfl (tks_frozen _ _) hbor ?_
  (refine Qd rfl rfl (by with_reducible first | exact sTks.und | exact sWrs.und | exact sIks.und | exact sAdrs.und) (List.length_map ..) rfl ?_; refine Qq rfl rfl rfl ?_; refine Qj (hK _ _ (Qz (Q4 ?_))); clear hK K)
  refine Xz (α := Nat) (fun i => i ≤ ts.length)
    (fun i => [(0, .ct (rssC l)), (2, .own 0), (3, .own 1), (10, .ct (tksC ts)), (11, .ct (intC ts.length)), (12, .ct (intC i))])
    (fun i => [(1, .box 94 [.ex v1, .ex v2]), (8, .mpx v2 (knM [])), (6, .mpx v1 (owM ((ts.take i).foldl (fun m t => ins m t (ofF l t)) []))), (0, .box 94 [.ex (.map none), .ex (.map none)])])
    (fun i => ts.length - i) 0 (Nat.zero_le _) (by exact Qu rfl ⟨rfl, rfl, rfl, rfl, rfl, rfl, trivial⟩) ?_
  intro i hi
  try dsimp only at hi ⊢
  (refine Qw (Qx fun K hK => ?_); refine Qk ilss rfl rfl rfl rfl ?_; refine Qj (hK _ _ (Qz (Qw ?_))); clear hK K)
  refine Q2 rfl (fun h => ?_) (fun h => ?_)
  · have e2 : (i : Int).toNat = i := Int.toNat_natCast i
    have hs := foldl_take (fun m t => ins m t (ofF l t)) ([] : OwM) (z := tk0) (l := ts) (i := i) (by omega)
    generalize (ts.take i).foldl (fun m t => ins m t (ofF l t)) ([] : OwM) = m at hs ⊢
    (refine Q1 (Qz (Qw (Q4 (Qw (Qx fun K hK => ?_))))))
    refine Qg rfl rfl rfl (by with_reducible exact sTks) (by omega) (tks_at (by omega) (by omega)) rfl ?_
    rw [e2]
    generalize ts.getD i tk0 = t at hs ⊢
    refine XZ (n := 3) rfl rfl rfl (by with_reducible exact Z4) rfl rfl ?_
    refine Qh 2 rfl rfl (by with_reducible exact zvTrace) rfl rfl rfl ?_
    refine Qe 3 rfl rfl rfl rfl rfl (by with_reducible exact szTrace) rfl rfl ?_
    (refine Qj (hK _ _ (Qz ?_)); clear hK K)
    refine Xu (by with_reducible exact mixed) 6 (.p 0 (.p 3 (.f 1 (.f 2 (.f 4 (.m 5 (.a 6 .done))))))) (by kernel_rfl) (fun K hK => ?_)
    (refine QV rfl rfl rfl (by with_reducible first | exact fTk0 | exact fTk1 | exact fTk2 | exact fWr0 | exact fWr1 | exact X0 | exact XK | exact Xl | exact fStm1 | exact fCn0 | exact fCn1 | exact fCn2 | exact fCn3 | exact fCs0 | exact fCs1) rfl ?_; refine Qq rfl rfl rfl ?_; refine QJ rfl rfl rfl rfl rfl (by with_reducible first | exact lMOwn | exact lMKnown) rfl ?_; refine Qa (n := 3) rfl rfl rfl rfl rfl (by with_reducible exact Z4) rfl ?_; refine Qa (n := 3) rfl rfl rfl rfl rfl (by with_reducible exact Z4) rfl ?_)
    refine Z2 3 goOf (hO t) rfl rfl rfl rfl rfl rfl ?_
    refine ZJ 3 _ rfl (Zz _ _) hbor ?_
    refine Xv (i := 6) (enc := tkE) (cv := rssC) t (ofF l t) rfl rfl rfl (KeyIs.agg (us := tkVs t) rfl) rfl uMOwn keyTk ?_
    (refine Qj (hK _ _ (Qz ?_)); clear hK K; refine Qx (fun K hK => ?_); refine Qk (iadd (by omega) (by omega)) rfl rfl rfl rfl ?_; refine Qq rfl rfl rfl ?_; refine Qj (hK _ _ (Q3 ?_)); clear hK K)
    refine Qm 2 ?_
    refine Q7 (i + 1) (by omega) (by omega) (by rw [hs]; exact Qu rfl ⟨rfl, rfl, rfl, rfl, rfl, by simp only [Int.natCast_add]; rfl, trivial⟩)
  · have hi' : i = ts.length := by omega
    rw [hi', List.take_length]
    generalize ts.foldl (fun m t => ins m t (ofF l t)) ([] : OwM) = m
    refine St.frzM 6 1 0 rfl rfl rfl (fun q hq => .inl (hbor q hq)) ?_
    (refine Qn (Qz (Qw (Qx fun K hK => ?_))); refine Qa (n := 2) rfl rfl rfl rfl rfl (by with_reducible first | exact lTrav | exact lWire | exact lCs) rfl ?_)
    refine Qe 2 rfl rfl rfl rfl (by show (true && (Value.oneCell' v2 && true)) = true; rw [hv2]; rfl) (by with_reducible exact szTrav) rfl rfl ?_
    (refine Qj (hK _ _ (Qz (Q0 ?_))); clear hK K)
    refine Fin.retMC [1, 0] v2 [_] rfl (Qi (n := 2) rfl rfl (by with_reducible exact lTrav) rfl QX) rfl rfl (fun _ => rfl) hv2
end Go.Proofs.YtlkdkbdgnjcopaaGreat
