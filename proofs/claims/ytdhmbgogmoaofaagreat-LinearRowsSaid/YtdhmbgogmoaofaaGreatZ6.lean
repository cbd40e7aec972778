/- The proof that LinearRows holds for every input, without conditions: part 6 of 6. -/
import Derived.Test.YtdhmbgogmoaofaaGreatZ5
import Derived.ProofKit
import Derived.OpenShut
import Derived.ShutString
import Derived.ChangeOld
import Derived.Below
import Derived.DataElems
import Derived.Test.YtdhmbgogmoaofaaGreatRows
namespace Go.Own
open Go.RowKit
variable {X : Ctx} {L : AL} {B : BL} {ops : Array Oper} {K : Act → World → Prop} {r : Pl} {k : Kd}
  {x y z : Operand} {d : Nat} {t t2 t' : TypeId} {pos : String} {af : Array Edge} {g : Option (Nat × Bool)}
section
variable {α : Type} {f : α → List CT} {n : Nat}
theorem el_len (hf : ∀ a, (f a).length = n) (l : List α) : (l.map f).flatten.length = l.length * n := by
  rw [flatten_length (k := n) (fun e he => by obtain ⟨m, _, rfl⟩ := List.mem_map.mp he; exact hf m)]; simp
theorem el_take (hf : ∀ a, (f a).length = n) (l : List α) (i : Nat) : (l.map f).flatten.take (i * n) = ((l.take i).map f).flatten := by
  induction l generalizing i with
  | nil => simp
  | cons c l ih =>
    cases i with
    | zero => simp
    | succ i =>
      rw [List.map_cons, List.flatten_cons, List.take_succ_cons, List.map_cons, List.flatten_cons, List.take_append, List.take_of_length_le (by rw [hf, Nat.succ_mul]; omega), ← ih]
      congr 2; rw [hf, Nat.succ_mul]; omega
theorem el_drop (hf : ∀ a, (f a).length = n) (l : List α) (i : Nat) : (l.map f).flatten.drop (i * n) = ((l.drop i).map f).flatten := by
  induction l generalizing i with
  | nil => simp
  | cons c l ih =>
    cases i with
    | zero => simp
    | succ i =>
      rw [List.map_cons, List.flatten_cons, List.drop_succ_cons, List.drop_append, List.drop_of_length_le (by rw [hf, Nat.succ_mul]; omega), List.nil_append, ← ih]
      congr 1; rw [hf, Nat.succ_mul]; omega
theorem el_get (hf : ∀ a, (f a).length = n) {l : List α} {i : Nat} (z : α) (h : i < l.length) : ((l.map f).flatten.drop (i * n)).take n = f (l.getD i z) := by
  rw [el_drop hf]
  conv => lhs; rw [← Nat.one_mul n]
  rw [el_take hf]
  have : (l.drop i).take 1 = [l.getD i z] := by
    rw [List.getD_eq_getElem?_getD, List.getElem?_eq_getElem h, List.drop_eq_getElem_cons h]; rfl
  rw [this]; simp
theorem el_put (hf : ∀ a, (f a).length = n) {l : List α} {i : Nat} (c : α) (h : i < l.length) : spl (l.map f).flatten (i * n) (f c) = ((l.set i c).map f).flatten := by
  unfold spl
  rw [el_take hf, hf, ← Nat.succ_mul, el_drop hf, List.set_eq_take_append_cons_drop, if_pos h]
  simp
theorem el_cell (hf : ∀ a, (f a).length = n) {l : List α} {i o : Nat} (z : α) (h : i < l.length) (ho : o < n) : (l.map f).flatten[i * n + o]? = (f (l.getD i z))[o]? := by
  rw [← el_get hf z h, List.getElem?_take, if_pos ho, List.getElem?_drop]
theorem el_put1 (hf : ∀ a, (f a).length = n) {l : List α} {i o : Nat} (z c : α) {ds : List CT} (h : i < l.length) (ho : o + ds.length ≤ n) (hc : spl (f (l.getD i z)) o ds = f c) : spl (l.map f).flatten (i * n + o) ds = ((l.set i c).map f).flatten := by
  rw [← el_put hf c h, ← hc]
  have e := el_get hf z h
  have hl : i * n + n ≤ (l.map f).flatten.length := by rw [el_len hf, ← Nat.succ_mul]; exact Nat.mul_le_mul_right _ h
  have hn := hf (l.getD i z)
  generalize (l.map f).flatten = q at e hl
  generalize f (l.getD i z) = p at e hn
  unfold spl
  subst e
  generalize i * n = s at hl hn ⊢
  have hlen : (List.take o (List.take n (List.drop s q)) ++ ds ++ List.drop (o + ds.length) (List.take n (List.drop s q))).length = n := by simp; omega
  rw [hlen]
  have e1 : q.take (s + o) = q.take s ++ ((q.drop s).take n).take o := by
    rw [List.take_take, Nat.min_eq_left (by omega), ← List.take_add]
  have e2 : q.drop (s + o + ds.length) = ((q.drop s).take n).drop (o + ds.length) ++ q.drop (s + n) := by
    rw [List.drop_take, List.drop_drop, ← Nat.add_assoc, show q.drop (s + n) = (q.drop (s + o + ds.length)).drop (n - (o + ds.length)) by rw [List.drop_drop]; congr 1; omega, List.take_append_drop]
  rw [e1, e2]
  simp only [List.append_assoc]
theorem ones_append : ∀ a b : List CT, ones (a ++ b) = (ones a && ones b)
  | [], b => rfl
  | c :: a, b => by simp only [List.cons_append, ones, ones_append a b, Bool.and_assoc]
theorem el_ones (h : ∀ a, ones (f a) = true) : ∀ l : List α, ones (l.map f).flatten = true
  | [] => rfl
  | a :: l => by rw [List.map_cons, List.flatten_cons, ones_append, h a, el_ones h l]; rfl
theorem stE1 {i j o el : Nat} {l : List α} {c : CT} (f : α → List CT) (z a : α) (hf : ∀ a, (f a).length = n) (hg : gd ops L g = some true) (hx : ev L x = some (.loc i (j * n + o))) (hi : bget B i = some (.row el n ((l.map f).flatten))) (hy : ev L y = some (.ct c)) (ho : c.one = true) (hj : j < l.length) (ho2 : o < n) (hc : spl (f (l.getD j z)) o [c] = f a) (hsz : (X.P.info? t).map (·.size) = some 1)
    (h : Ops X ops r L (bset B i (.row el n (((l.set j a).map f).flatten))) K) : Ops X ops (.cons ⟨none, .store t x y, t', pos, af, g⟩ .any r) L B K :=
  Ops.stG hg hx (.inl rfl) hi (one_val ho hy) hsz (by
    show j * n + o + 1 ≤ (l.map f).flatten.length
    rw [el_len hf]
    have := Nat.mul_le_mul_right n hj
    rw [Nat.succ_mul] at this; omega) (by
    have : (Ent.row el n ((l.map f).flatten)).putc (j * n + o) [c] = .row el n (((l.set j a).map f).flatten) := by rw [← el_put1 hf z a (ds := [c]) hj ho2 hc]; rfl
    rw [this]; exact h)
theorem ldE {i j : Nat} {e : Ent} {l : List α} (f : α → List CT) (z : α) (hf : ∀ a, (f a).length = n) (hk : k.rd = true) (hg : gd ops L g = some true) (hx : ev L x = some (.loc i (j * n))) (hi : bget B i = some e) (he : e.cs = (l.map f).flatten) (hj : j < l.length) (hT : LdN X.P t n) (hn : Nat.blt d X.n = true)
    (h : Ops X ops r ((d, .ct (.fr (aggT (f (l.getD j z))))) :: L) B K) : Ops X ops (.cons ⟨some d, .load t x, t', pos, af, g⟩ k r) L B K :=
  Ops.ldNA hk hg hx hi (by rw [he, el_len hf, ← Nat.succ_mul]; exact Nat.mul_le_mul_right _ hj) hT hn (by rw [he, el_get hf z hj]; exact h)
theorem stE {i j el : Nat} {l : List α} (f : α → List CT) (c : α) (hf : ∀ a, (f a).length = n) (hg : gd ops L g = some true) (hx : ev L x = some (.loc i (j * n))) (hi : bget B i = some (.row el n ((l.map f).flatten))) (hy : ev L y = some (.ct (.fr (aggT (f c))))) (ho : ones (f c) = true) (hj : j < l.length) (hsz : (X.P.info? t).map (·.size) = some n)
    (h : Ops X ops r L (bset B i (.row el n (((l.set j c).map f).flatten))) K) : Ops X ops (.cons ⟨none, .store t x y, t', pos, af, g⟩ .any r) L B K :=
  Ops.stNA hg hx hi hy ho (by rw [hsz, hf]) (by show j * n + (f c).length ≤ _; rw [hf]; show _ ≤ (l.map f).flatten.length; rw [el_len hf, ← Nat.succ_mul]; exact Nat.mul_le_mul_right _ hj) (by
    have : (Ent.row el n ((l.map f).flatten)).putc (j * n) (f c) = .row el n (((l.set j c).map f).flatten) := by rw [← el_put hf c hj]; rfl
    rw [this]; exact h)
end
theorem Ops.appNil (i : Nat) {el n bytes : Nat} {zv : Value} {es : List (List CT)} (hg : gd ops L g = some true) (hx : ev L x = some (.ct (.ex (.slice none 0 0)))) (hy : ev L y = some (.ct (.fr (sliceT n es)))) (hT : SlcT X.P t el n bytes zv) (ho : ones es.flatten = true) (hb : es.length * bytes ≤ 140737488355328) (hmx : es.length ≤ 140737488355328) (hN : noN i L = true) (hB : bget B i = none) (hn : Nat.blt d X.n = true)
    (h : Ops X ops r ((d, .own i) :: L) ((i, .row el n es.flatten) :: B) K) : Ops X ops (.cons ⟨some d, .call { callee := .builtin .append, args := #[x, y], argTypes := #[t, t] }, t', pos, af, g⟩ .any r) L B K :=
  Ops.mkE (k := .any) rfl hg rfl hn hN hB (fun a ρ w hI => by
    obtain ⟨ad, c, hy1, hy2, hy3, hy4, hy5⟩ := hI.ev hy
    obtain ⟨nf, h1, h2, h3, h4⟩ := hT.inf
    have hmax : 0 + es.length ≤ maxLen := by simp only [maxLen]; omega
    have key : ∃ v' w', (Builtin.append_ #[t, t] t' #[.slice none 0 0, a.eval y]).run X.P w = .ok v' w' ∧ (∃ news, cells (Sof X B ρ) w es.flatten news ∧ w'.ownsRow 0 el n v' (0 + es.length) ([] ++ news)) ∧ w.grownBy w' (Value.slice none 0 0).ownBlock ∧ (blk v' = blk (.slice none 0 0) ∨ ∀ g, blk v' = some g → w.heap.size ≤ g) := by
      rw [hy1]
      have how : w.ownsRow 0 el n (.slice none 0 0) 0 [] := World.ownsRow_nil _ _ _ _
      by_cases he : es = []
      · subst he
        cases ad with
        | none => exact ⟨.slice none 0 0, w, by simp [Builtin.append_, run_underlying hT.und, sizeOf, typeInfo, h1, Builtin.lenOf, Builtin.firstCells], ⟨[], trivial, how⟩, ⟨rfl, rfl, rfl, Nat.le_refl _, fun _ _ _ => rfl⟩, .inl rfl⟩
        | some ad =>
          obtain ⟨v', w', r1, r2, r3, r4⟩ := run_append_blk (P := X.P) w t t' el nf zv n bytes hT.und h1 h4 h2 h3 hT.zs hT.pos _ 0 [] how ad 0 c [] (by simp) (by simp) (by simp) (by simp) (by simp)
          exact ⟨v', w', r1, ⟨[], trivial, r2⟩, r3, r4⟩
      · obtain ⟨b, o, rfl, hS, hlt, news, hn1, hn2⟩ := hy5 he
        obtain ⟨v', w', r1, r2, r3, r4⟩ := run_append_blk (P := X.P) w t t' el nf zv n bytes hT.und h1 h4 h2 h3 hT.zs hT.pos _ 0 [] how ⟨b, o, none⟩ es.length c news (by rw [hn1.length, flatten_length hy4]) (fun j u hu => by rw [add_cell]; exact hn2 j u hu) (ones_cells ho hn1) hmax (by simpa using hb)
        exact ⟨v', w', r1, ⟨news, hn1, r2⟩, r3, r4⟩
    obtain ⟨v', w', r1, ⟨news, r2, r3⟩, r4, r5⟩ := key
    refine ⟨v', w', run_builtin (args := [x, y]) (fun _ => by
      simp only [List.map_cons, List.map_nil, hI.evx hx]
      exact run_v r1), ⟨r4.os, r4.tape, r4.output, r4.size, fun q hq => r4.block q hq (fun e => by cases e)⟩, fun gb hgb => ?_, fun S' hk => ⟨0 + es.length, [] ++ news, r3, r2.mono hk⟩⟩
    rcases r5 with h5 | h5
    · rw [h5] at hgb; cases hgb
    · exact h5 gb hgb) h
theorem St.name {c : Code} {Q : Exit → Act → World → Prop} (dd i : Nat) {el n : Nat} {cs : List CT} (hd : look L dd = some (.own i)) (hi : bget B i = some (.row el n cs)) (h : ∀ v : Value, v.oneCell' = true → St X ((dd, .ct (.ex v)) :: L) (bset B i (.rowx v el n cs)) c Q) : St X L B c Q := Fin.name dd i hd hi h
theorem keepL_id {i : Nat} : ∀ {L : AL}, noN i L = true → keepL (fun j => !Nat.beq j i) L = L
  | [], _ => rfl
  | (d, s) :: L, h => by
    simp only [noN, Bool.and_eq_true] at h
    rw [keepL, keepL_id h.2]
    congr 2
    cases s with
    | own j => have := h.1; simp only [Sl.keepN, this, if_true]
    | loc j o => have := h.1; simp only [Sl.keepN, this, if_true]
    | ct c => rfl
    | any => rfl
theorem bget_end {i : Nat} {e : Ent} (C : BL) (h : bget C i = none) (j : Nat) : bget (C ++ [(i, e)]) j = bget ((i, e) :: C) j := by
  rw [bget_append]
  by_cases hij : i = j
  · subst hij; rw [h, bget_cons_eq, bget_cons_eq]; rfl
  · rw [bget_cons_ne _ _ hij, bget_cons_ne _ _ hij]; cases bget C j <;> rfl
theorem Ops.callP {f : FuncId} {x0 : Operand} {tys : Array TypeId} {α : Type} {J : α → Prop} {R : α → CT} {e0 : Ent} {D E : α → Ent} (C : BL) (hgo : InGo X.P f) (hok : OkM X.P f [.own 0] [(0, e0)] [0] J (fun q => .ct (R q)) (fun q => [(9, E q), (0, D q)])) (hg : gd ops L g = some true) (hargs : ev L x0 = some (.own 0)) (hn : Nat.blt d X.n = true)
    (hbor : X.bor = noBor) (hB : B = C ++ [(0, e0)]) (hC0 : bget C 0 = none) (hC9 : bget C 9 = none) (hfix : X.fix = []) (hL : noN 9 L = true)
    (h : ∀ q, J q → Ops X ops r ((d, .ct (R q)) :: L) ((9, E q) :: C ++ [(0, D q)]) K) : Ops X ops (.cons ⟨some d, .call { callee := .value (.func f), args := #[x0], argTypes := tys }, t, pos, af, g⟩ .any r) L B K := by
  subst hB
  refine Ops.callM (args := [x0]) C (fun j => !Nat.beq j 9) hgo hok hg (by simp only [evS, hargs]) hn (fun gb hg => by rw [hbor] at hg; exact hg.elim) (bget_end C hC0) (fun j hj => ?_) (fun j hj => ?_) (fun p hp => by rw [hfix] at hp; cases hp) (fun q j hq => ?_) (fun q hq => ?_)
  · have h0 : 0 ≠ j := fun e => by subst e; rw [hC0] at hj; cases hj
    have h9 : 9 ≠ j := fun e => by subst e; rw [hC9] at hj; cases hj
    exact ⟨bget_cons_ne _ _ h0, fun q => by rw [bget_cons_ne _ _ h9, bget_cons_ne _ _ h0]; rfl⟩
  · by_cases h0 : 0 = j
    · subst h0; exact .inl (List.mem_singleton.2 rfl)
    · have h9 : 9 ≠ j := fun e => by subst e; cases hj
      exact .inr fun q => by rw [bget_cons_ne _ _ h9, bget_cons_ne _ _ h0]; rfl
  · rcases hq with hq | ⟨_, hq⟩ <;> cases hq
  · rw [keepL_id hL]
    intro a ρ w hI
    exact h q hq a ρ w (hI.bext fun j => by
      show bget ((9, E q) :: (C ++ [(0, D q)])) j = bget ((9, E q) :: (0, D q) :: C) j
      by_cases h9 : 9 = j
      · subst h9; rw [bget_cons_eq, bget_cons_eq]
      · rw [bget_cons_ne _ _ h9, bget_cons_ne _ _ h9, bget_end C hC0])
end Go.Own
namespace Go.Proofs.YtdhmbgogmoaofaaGreat
open Go.Own Go.Limbs
attribute [local irreducible] St Ops Go.Own.Fin Ok OkB OkN OkM wpA
def LpInH (q : Lp × Value) : Prop := LpIn q.1 ∧ q.2.oneCell' = true
set_option maxHeartbeats 4000000 in
theorem Program_own (bs : List Int) (p : Nat) (hb : Bytes bs) :
    OkM Tryz.prog 14 [.own 0] [(0, .box 82 (codes bs p))] [0] LpInH (fun q => .ct (.fr (tupT [intC q.1.n, .ex q.2, intsC q.1.c]))) (fun q => [(9, .rowx q.2 57 2 (rws q.1.rs)), (0, .box 82 (codes bs q.1.p))]) := by
  refine OkM.enter Tryz.func14 rfl _ Tryz.ntmps14 rfl (fun i hi => by obtain rfl := List.mem_singleton.1 hi; rfl) ?_
  intro S w g hbor
  (refine St.seq ?_; refine St.regionK (fun K hK => ?_); refine Ops.assign rfl rfl rfl ?_; refine Ops.assign rfl rfl rfl ?_; refine Ops.assign rfl rfl rfl ?_; refine Ops.nil (hK _ _ ?_); clear hK K; refine Fin.then ?_; refine St.seq ?_; refine St.regionK (fun K hK => ?_); refine Ops.move rfl rfl rfl ?_)
  refine Ops.callB goNext (Next_ok bs p 5 (by decide) (by decide) hb) rfl rfl rfl rfl rfl (fun q hq => ?_)
  obtain ⟨n, p1⟩ := q
  dsimp only at hq ⊢
  (refine Ops.assign rfl rfl rfl ?_; refine Ops.nil (hK _ _ ?_); clear hK K; refine Fin.then ?_; refine St.seq ?_; refine St.regionK (fun K hK => ?_); refine Ops.assign rfl rfl rfl ?_; refine Ops.nil (hK _ _ ?_); clear hK K; refine Fin.then ?_; refine St.seq ?_; refine St.seq ?_; refine St.regionK (fun K hK => ?_); refine Ops.move rfl rfl rfl ?_)
  refine Ops.callB goNext (Next_ok bs p1 7 (by decide) (by decide) hb) rfl rfl rfl rfl rfl (fun q hq1 => ?_)
  obtain ⟨k0, p2⟩ := q
  dsimp only at hq1 ⊢
  (refine Ops.assign rfl rfl rfl ?_; refine Ops.nil (hK _ _ ?_); clear hK K; refine Fin.then ?_; refine St.block ?_)
  refine St.nilRow 6 9 57 2 rfl rfl rfl ?_
  refine St.loop (α := Int × List Rw × Nat) (fun x => 0 ≤ x.1 ∧ x.2.1.length + x.1 ≤ 6 ∧ ∀ r ∈ x.2.1, RowIn n r)
    (fun x => [(0, .own 0), (5, .ct (intC n)), (6, .own 9), (7, .ct (intC x.1))]) (fun x => [(9, .row 57 2 (rws x.2.1)), (0, .box 82 (codes bs x.2.2))]) (fun x => x.1.toNat) (k0, [], p2) ⟨by omega, by simp; omega, by simp⟩ (by exact Entails.of rfl ⟨rfl, rfl, rfl, rfl, trivial⟩) ?_
  rintro ⟨k, rs, p3⟩ ⟨hk0, hkl, hrs⟩
  dsimp only at hk0 hkl hrs ⊢
  (refine St.seq ?_; refine St.seq ?_; refine St.regionK (fun K hK => ?_); refine Ops.move rfl rfl rfl ?_; refine Ops.ibin igtr rfl rfl rfl rfl ?_; refine Ops.nil (hK _ _ ?_); clear hK K; refine Fin.then ?_)
  refine St.condP rfl (fun hk => ?_) (fun hk => ?_)
  · (refine St.skip ?_; refine Fin.then ?_; refine St.seq ?_; refine St.block ?_; refine St.seq ?_; refine St.regionK (fun K hK => ?_); refine Ops.move rfl rfl rfl ?_)
    refine Ops.callB goNext (Next_ok bs p3 30 (by decide) (by decide) hb) rfl rfl rfl rfl rfl (fun q hq2 => ?_)
    obtain ⟨b0, p4⟩ := q
    dsimp only at hq2 ⊢
    (refine Ops.ibin (isub (by omega) (by omega)) rfl rfl rfl rfl ?_)
    refine Ops.build rfl (by with_reducible exact bRow) rfl (.one rfl rfl rfl rfl .nil) rfl ?_
    (refine Ops.alloc 1 rfl rfl (by with_reducible exact zvRow) rfl rfl rfl ?_; refine Ops.stWN 2 rfl rfl rfl rfl rfl (by with_reducible exact szRow) rfl rfl ?_; refine Ops.nil (hK _ _ ?_); clear hK K; refine Fin.then ?_; refine St.seq ?_; refine St.seq ?_; refine St.regionK (fun K hK => ?_); refine Ops.move rfl rfl rfl ?_; refine Ops.move rfl rfl rfl ?_; refine Ops.ibin (iadd (by omega) (by omega)) rfl rfl rfl rfl ?_)
    refine Ops.callB goNext (Next_ok bs p4 (n + 1) (by omega) (by omega) hb) rfl rfl rfl rfl rfl (fun q hq3 => ?_)
    obtain ⟨i0, p5⟩ := q
    dsimp only at hq3 ⊢
    (refine Ops.assign rfl rfl rfl ?_; refine Ops.nil (hK _ _ ?_); clear hK K; refine Fin.then ?_; refine St.block ?_)
    refine St.nilX 3 3 1 rfl rfl ?_
    refine St.loop (α := Int × List Int × Value × Nat) (fun x => 0 ≤ x.1 ∧ x.2.1.length + x.1 ≤ n ∧ (∀ c ∈ x.2.1, -3 ≤ c ∧ c ≤ 5) ∧ x.2.2.1.oneCell' = true)
      (fun x => [(0, .own 0), (5, .ct (intC n)), (6, .own 9), (7, .ct (intC k)), (8, .own 1), (9, .ct (intC x.1))])
      (fun x => [(3, .rowx x.2.2.1 3 1 (ints x.2.1)), (1, .box 57 [.ex x.2.2.1, intC (b0 - 8)]), (9, .row 57 2 (rws rs)), (0, .box 82 (codes bs x.2.2.2))]) (fun x => x.1.toNat) (i0, [], .slice none 0 0, p5) ⟨by omega, by simp; omega, by simp, rfl⟩ (by exact Entails.of rfl ⟨rfl, rfl, rfl, rfl, rfl, rfl, trivial⟩) ?_
    · rintro ⟨i, cs, v, p6⟩ ⟨hi0, hil, hcs, hv⟩
      dsimp only at hi0 hil hcs hv ⊢
      (refine St.seq ?_; refine St.seq ?_; refine St.regionK (fun K hK => ?_); refine Ops.move rfl rfl rfl ?_; refine Ops.ibin igtr rfl rfl rfl rfl ?_; refine Ops.nil (hK _ _ ?_); clear hK K; refine Fin.then ?_)
      refine St.condP rfl (fun hi => ?_) (fun hi => ?_)
      · (refine St.skip ?_; refine Fin.then ?_; refine St.seq ?_; refine St.block ?_)
        refine St.drawA (by with_reducible exact mixed) (.p 0 (.p 2 (.fk 1 (.lin (.a 3 (.p 4 (.a 5 (.a 6 (.p 7 (.a 8 .done))))))) 3 (.p 4 (.fk 1 (.lin (.a 5 (.a 6 (.p 7 (.a 8 .done))))) 5 (.lin (.a 1 (.a 6 (.p 7 (.a 8 .done)))))))))) (by kernel_rfl) (fun K hK => ?_)
        refine Fin.p ?_
        (refine Ops.fldO rfl rfl rfl (by with_reducible first | exact fC0 | exact fC1 | exact fR0 | exact fR1) rfl ?_)
        refine Ops.nil (Fin.p ?_)
        (refine Ops.move rfl rfl rfl ?_)
        refine Ops.nil (Fin.fk ?_ ?_)
        · (refine Ops.ld1A rfl rfl rfl rfl rfl (by with_reducible first | exact lBytes | exact lInt | exact lInts) rfl ?_)
          refine Ops.nil (Fin.lin ?_)
          refine Ops.callB goNext (Next_ok bs p6 9 (by decide) (by decide) hb) rfl rfl rfl rfl rfl (fun q hq4 => ?_)
          obtain ⟨c, p7⟩ := q
          dsimp only at hq4 ⊢
          (refine Ops.ibin (isub (by omega) (by omega)) rfl rfl rfl rfl ?_)
          refine Ops.lit1 rfl rfl (by with_reducible exact sInts) rfl rfl rfl ?_
          skip
          refine Ops.link 33 3 rfl rfl ?_
          refine Ops.append1 cs.length (ints (cs ++ [c - 3])) rfl rfl rfl rfl (by with_reducible exact sInts) (by simp [ints]) rfl (by omega) (by omega) (by simp [ints]) rfl ?_
          (refine Ops.fldO rfl rfl rfl (by with_reducible first | exact fC0 | exact fC1 | exact fR0 | exact fR1) rfl ?_)
          refine Ops.name 38 3 rfl rfl (fun v' hv' => ?_)
          refine Ops.st1A (c := .ex v') rfl rfl rfl rfl hv' (by with_reducible exact zIntsD) (by simp [Ent.cs]) ?_
          (refine Ops.nil (hK _ _ ?_); clear hK K; refine Fin.then ?_; refine St.regionK (fun K hK => ?_); refine Ops.move rfl rfl rfl ?_; refine Ops.ibin (isub (by omega) (by omega)) rfl rfl rfl rfl ?_; refine Ops.assign rfl rfl rfl ?_; refine Ops.nil (hK _ _ ?_); clear hK K; refine Fin.thenN ?_)
          refine Fin.next (i - 1, cs ++ [c - 3], v', p7) (by dsimp only; omega) ⟨by dsimp only; omega, by simp; omega, mem_snoc hcs (by omega), hv'⟩ (by exact Entails.of rfl ⟨rfl, rfl, rfl, rfl, rfl, rfl, trivial⟩)
        · refine Ops.callB goNext (Next_ok bs p6 9 (by decide) (by decide) hb) rfl rfl rfl rfl rfl (fun q hq4 => ?_)
          obtain ⟨c, p7⟩ := q
          dsimp only at hq4 ⊢
          skip
          refine Ops.nil (Fin.p ?_)
          (refine Ops.ibin (isub (by omega) (by omega)) rfl rfl rfl rfl ?_)
          refine Ops.nil (Fin.fk ?_ ?_)
          · (refine Ops.ld1A rfl rfl rfl rfl rfl (by with_reducible first | exact lBytes | exact lInt | exact lInts) rfl ?_)
            refine Ops.nil (Fin.lin ?_)
            refine Ops.lit1 rfl rfl (by with_reducible exact sInts) rfl rfl rfl ?_
            skip
            refine Ops.link 33 3 rfl rfl ?_
            refine Ops.append1 cs.length (ints (cs ++ [c - 3])) rfl rfl rfl rfl (by with_reducible exact sInts) (by simp [ints]) rfl (by omega) (by omega) (by simp [ints]) rfl ?_
            (refine Ops.fldO rfl rfl rfl (by with_reducible first | exact fC0 | exact fC1 | exact fR0 | exact fR1) rfl ?_)
            refine Ops.name 38 3 rfl rfl (fun v' hv' => ?_)
            refine Ops.st1A (c := .ex v') rfl rfl rfl rfl hv' (by with_reducible exact zIntsD) (by simp [Ent.cs]) ?_
            (refine Ops.nil (hK _ _ ?_); clear hK K; refine Fin.then ?_; refine St.regionK (fun K hK => ?_); refine Ops.move rfl rfl rfl ?_; refine Ops.ibin (isub (by omega) (by omega)) rfl rfl rfl rfl ?_; refine Ops.assign rfl rfl rfl ?_; refine Ops.nil (hK _ _ ?_); clear hK K; refine Fin.thenN ?_)
            refine Fin.next (i - 1, cs ++ [c - 3], v', p7) (by dsimp only; omega) ⟨by dsimp only; omega, by simp; omega, mem_snoc hcs (by omega), hv'⟩ (by exact Entails.of rfl ⟨rfl, rfl, rfl, rfl, rfl, rfl, trivial⟩)
          · refine Ops.lit1 rfl rfl (by with_reducible exact sInts) rfl rfl rfl ?_
            refine Ops.nil (Fin.lin ?_)
            (refine Ops.ld1A rfl rfl rfl rfl rfl (by with_reducible first | exact lBytes | exact lInt | exact lInts) rfl ?_)
            refine Ops.link 33 3 rfl rfl ?_
            refine Ops.append1 cs.length (ints (cs ++ [c - 3])) rfl rfl rfl rfl (by with_reducible exact sInts) (by simp [ints]) rfl (by omega) (by omega) (by simp [ints]) rfl ?_
            (refine Ops.fldO rfl rfl rfl (by with_reducible first | exact fC0 | exact fC1 | exact fR0 | exact fR1) rfl ?_)
            refine Ops.name 38 3 rfl rfl (fun v' hv' => ?_)
            refine Ops.st1A (c := .ex v') rfl rfl rfl rfl hv' (by with_reducible exact zIntsD) (by simp [Ent.cs]) ?_
            (refine Ops.nil (hK _ _ ?_); clear hK K; refine Fin.then ?_; refine St.regionK (fun K hK => ?_); refine Ops.move rfl rfl rfl ?_; refine Ops.ibin (isub (by omega) (by omega)) rfl rfl rfl rfl ?_; refine Ops.assign rfl rfl rfl ?_; refine Ops.nil (hK _ _ ?_); clear hK K; refine Fin.thenN ?_)
            refine Fin.next (i - 1, cs ++ [c - 3], v', p7) (by dsimp only; omega) ⟨by dsimp only; omega, by simp; omega, mem_snoc hcs (by omega), hv'⟩ (by exact Entails.of rfl ⟨rfl, rfl, rfl, rfl, rfl, rfl, trivial⟩)
      · refine St.frzX 3 1 0 _ rfl rfl rfl (ints_frozen _ _) (fun q hq => .inl (hbor q hq)) ?_
        (refine St.exit ?_; refine Fin.then ?_; refine St.seq ?_; refine St.seq ?_; refine St.regionK (fun K hK => ?_); refine Ops.move rfl rfl rfl ?_)
        refine Ops.callB goBool (Bool_ok bs p6 16 (by decide) (by decide) hb) rfl rfl rfl rfl rfl (fun q _ => ?_)
        obtain ⟨b, p7⟩ := q
        dsimp only
        (refine Ops.nil (hK _ _ ?_); clear hK K; refine Fin.then ?_)
        refine St.condB rfl (fun _ => ?_) (fun _ => ?_)
        · (refine St.regionK (fun K hK => ?_); refine Ops.move rfl rfl rfl ?_)
          refine Ops.lit (m := 2) (cs := [intC (-4503599627370496), intC 4503599627370496]) rfl rfl (by with_reducible exact sInts) (.one rfl rfl rfl rfl (.one rfl rfl rfl rfl .nil)) (by decide) rfl ?_
          refine Ops.callB goPick (Pick_ok bs p7 [-4503599627370496, 4503599627370496] (by decide) (by decide) hb) rfl rfl rfl rfl rfl (fun q hq5 => ?_)
          obtain ⟨b1, p8⟩ := q
          have hb1 : b1 = -4503599627370496 ∨ b1 = 4503599627370496 := by simpa using hq5
          dsimp only
          (refine Ops.fldO rfl rfl rfl (by with_reducible first | exact fC0 | exact fC1 | exact fR0 | exact fR1) rfl ?_; refine Ops.st1A rfl rfl rfl rfl rfl (by with_reducible exact zInt) (by simp [Ent.cs]) ?_; refine Ops.nil (hK _ _ ?_); clear hK K; refine Fin.then ?_; refine St.regionK (fun K hK => ?_); refine Ops.move rfl rfl rfl ?_; refine Ops.ldNO (n := 2) rfl rfl rfl rfl rfl (by with_reducible exact lRow) rfl ?_)
          refine Ops.litN (n := 2) rfl rfl (by with_reducible exact sRows) rfl rfl (by decide) rfl ?_
          refine Ops.append1 rs.length (rws (rs ++ [⟨cs, b1⟩])) rfl rfl rfl rfl (by with_reducible exact sRows) (rws_len rs) rfl (by omega) (by omega) (rws_snoc rs ⟨cs, b1⟩) rfl ?_
          (refine Ops.assign rfl rfl rfl ?_; refine Ops.nil (hK _ _ ?_); clear hK K; refine Fin.then ?_; refine St.regionK (fun K hK => ?_); refine Ops.move rfl rfl rfl ?_; refine Ops.ibin (isub (by omega) (by omega)) rfl rfl rfl rfl ?_; refine Ops.assign rfl rfl rfl ?_; refine Ops.nil (hK _ _ ?_); clear hK K; refine Fin.thenN ?_)
          refine Fin.dropB 1 ?_
          refine Fin.next (k - 1, rs ++ [⟨cs, b1⟩], p8) (by dsimp only; omega) ⟨by dsimp only; omega, by simp; omega, mem_snoc hrs ⟨by dsimp only; omega, hcs, by dsimp only; omega, by dsimp only; omega⟩⟩ (by exact Entails.of rfl ⟨rfl, rfl, rfl, rfl, trivial⟩)
        · (refine St.skip ?_; refine Fin.then ?_; refine St.regionK (fun K hK => ?_); refine Ops.move rfl rfl rfl ?_; refine Ops.ldNO (n := 2) rfl rfl rfl rfl rfl (by with_reducible exact lRow) rfl ?_)
          refine Ops.litN (n := 2) rfl rfl (by with_reducible exact sRows) rfl rfl (by decide) rfl ?_
          refine Ops.append1 rs.length (rws (rs ++ [⟨cs, b0 - 8⟩])) rfl rfl rfl rfl (by with_reducible exact sRows) (rws_len rs) rfl (by omega) (by omega) (rws_snoc rs ⟨cs, b0 - 8⟩) rfl ?_
          (refine Ops.assign rfl rfl rfl ?_; refine Ops.nil (hK _ _ ?_); clear hK K; refine Fin.then ?_; refine St.regionK (fun K hK => ?_); refine Ops.move rfl rfl rfl ?_; refine Ops.ibin (isub (by omega) (by omega)) rfl rfl rfl rfl ?_; refine Ops.assign rfl rfl rfl ?_; refine Ops.nil (hK _ _ ?_); clear hK K; refine Fin.thenN ?_)
          refine Fin.dropB 1 ?_
          refine Fin.next (k - 1, rs ++ [⟨cs, b0 - 8⟩], p7) (by dsimp only; omega) ⟨by dsimp only; omega, by simp; omega, mem_snoc hrs ⟨by dsimp only; omega, hcs, by dsimp only; omega, by dsimp only; omega⟩⟩ (by exact Entails.of rfl ⟨rfl, rfl, rfl, rfl, trivial⟩)
  · (refine St.exit ?_; refine Fin.then ?_; refine St.seq ?_; refine St.regionK (fun K hK => ?_); refine Ops.assign rfl rfl rfl ?_; refine Ops.nil (hK _ _ ?_); clear hK K; refine Fin.then ?_; refine St.seq ?_; refine St.seq ?_; refine St.regionK (fun K hK => ?_); refine Ops.move rfl rfl rfl ?_; refine Ops.move rfl rfl rfl ?_; refine Ops.ibin (iadd (by omega) (by omega)) rfl rfl rfl rfl ?_)
    refine Ops.callB goNext (Next_ok bs p3 (n + 1) (by omega) (by omega) hb) rfl rfl rfl rfl rfl (fun q hq3 => ?_)
    obtain ⟨i0, p5⟩ := q
    dsimp only at hq3 ⊢
    (refine Ops.assign rfl rfl rfl ?_; refine Ops.nil (hK _ _ ?_); clear hK K; refine Fin.then ?_; refine St.block ?_)
    refine St.nilRow 10 2 3 1 rfl rfl rfl ?_
    refine St.loop (α := Int × List Int × Nat) (fun x => 0 ≤ x.1 ∧ x.2.1.length + x.1 ≤ n ∧ (∀ c ∈ x.2.1, -2 ≤ c ∧ c ≤ 4))
      (fun x => [(0, .own 0), (5, .ct (intC n)), (6, .own 9), (10, .own 2), (11, .ct (intC x.1))])
      (fun x => [(2, .row 3 1 (ints x.2.1)), (9, .row 57 2 (rws rs)), (0, .box 82 (codes bs x.2.2))]) (fun x => x.1.toNat) (i0, [], p5) ⟨by omega, by simp; omega, by simp⟩ (by exact Entails.of rfl ⟨rfl, rfl, rfl, rfl, rfl, trivial⟩) ?_
    rintro ⟨i, cs, p6⟩ ⟨hi0, hil, hcs⟩
    dsimp only at hi0 hil hcs ⊢
    (refine St.seq ?_; refine St.seq ?_; refine St.regionK (fun K hK => ?_); refine Ops.move rfl rfl rfl ?_; refine Ops.ibin igtr rfl rfl rfl rfl ?_; refine Ops.nil (hK _ _ ?_); clear hK K; refine Fin.then ?_)
    refine St.condP rfl (fun hi => ?_) (fun hi => ?_)
    · (refine St.skip ?_; refine Fin.then ?_; refine St.seq ?_; refine St.block ?_; refine St.regionK (fun K hK => ?_); refine Ops.move rfl rfl rfl ?_; refine Ops.move rfl rfl rfl ?_)
      refine Ops.callB goNext (Next_ok bs p6 7 (by decide) (by decide) hb) rfl rfl rfl rfl rfl (fun q hq4 => ?_)
      obtain ⟨c, p7⟩ := q
      dsimp only at hq4 ⊢
      (refine Ops.ibin (isub (by omega) (by omega)) rfl rfl rfl rfl ?_)
      refine Ops.lit1 rfl rfl (by with_reducible exact sInts) rfl rfl rfl ?_
      refine Ops.append1 cs.length (ints (cs ++ [c - 2])) rfl rfl rfl rfl (by with_reducible exact sInts) (by simp [ints]) rfl (by omega) (by omega) (by simp [ints]) rfl ?_
      (refine Ops.assign rfl rfl rfl ?_; refine Ops.nil (hK _ _ ?_); clear hK K; refine Fin.then ?_; refine St.regionK (fun K hK => ?_); refine Ops.move rfl rfl rfl ?_; refine Ops.ibin (isub (by omega) (by omega)) rfl rfl rfl rfl ?_; refine Ops.assign rfl rfl rfl ?_; refine Ops.nil (hK _ _ ?_); clear hK K; refine Fin.thenN ?_)
      refine Fin.next (i - 1, cs ++ [c - 2], p7) (by dsimp only; omega) ⟨by dsimp only; omega, by simp; omega, mem_snoc hcs (by omega)⟩ (by exact Entails.of rfl ⟨rfl, rfl, rfl, rfl, rfl, trivial⟩)
    · refine St.name 6 9 rfl rfl (fun v hv => ?_)
      refine St.frz 2 _ rfl (ints_frozen _ _) (fun q hq => .inl (hbor q hq)) ?_
      (refine St.exit ?_; refine Fin.then ?_; refine St.seq ?_; refine St.regionK (fun K hK => ?_); refine Ops.move rfl rfl rfl ?_; refine Ops.move rfl rfl rfl ?_; refine Ops.move rfl rfl rfl ?_; refine Ops.assign rfl rfl rfl ?_; refine Ops.assign rfl rfl rfl ?_; refine Ops.assign rfl rfl rfl ?_; refine Ops.nil (hK _ _ ?_); clear hK K; refine Fin.then ?_; refine St.ret ?_)
      refine Fin.retM (⟨n, rs, cs, p6⟩, v) [_, _, _] rfl (AllRes.tmp rfl (AllRes.tmp rfl (AllRes.tmp rfl AllRes.nil))) rfl (fun _ => rfl) ⟨⟨hq.1, by show n ≤ 4; omega, by show rs.length ≤ 6; omega, hrs, by show (cs.length : Int) ≤ n; omega, hcs⟩, hv⟩
end Go.Proofs.YtdhmbgogmoaofaaGreat
namespace Go.Proofs.YtdhmbgogmoaofaaGreat
open Go.Own Go.Limbs
attribute [local irreducible] St Ops Go.Own.Fin Ok OkB OkN OkM wpA tf
theorem rw_len (r : Rw) : (rwCs r).length = 2 := rfl
theorem cmpQ_ge {p q : Rat} (h : p ≤ q) : 0 ≤ cmpQ q p := by
  have := mt cmpQ_neg.1 (Rat.not_lt.2 h); omega
theorem Kt7 {m : Nat} (h : m ≤ 7) : Kt m < 1073741824 ^ 11 := by
  have : m = 0 ∨ m = 1 ∨ m = 2 ∨ m = 3 ∨ m = 4 ∨ m = 5 ∨ m = 6 ∨ m = 7 := by omega
  rcases this with rfl | rfl | rfl | rfl | rfl | rfl | rfl | rfl <;> decide +kernel
theorem sol_sz7 {n : Nat} {rs : List Rw} {c : List Int} {O : Oc} (h : Sol n rs c O) (hl : rs.length ≤ 7) (hk : O.kind = 1) : ∃ q : Rat, O.value = ofQ q ∧ (limbs (ofQ q).num).length ≤ 11 ∧ (limbs (ofQ q).den).length ≤ 11 := by
  cases h with
  | opt D X Y val hX hv hY hw b1 b2 b3 b4 =>
    have hD := hX.den
    obtain ⟨h1, h2⟩ := mk_le val D.natAbs (by omega)
    have := Kt7 hl
    exact ⟨shq val D, rfl, limbs_length_le (by unfold shq; omega), limbs_length_le (by unfold shq; omega)⟩
  | unb => exact absurd (show (2 : Int) = 1 from hk) (by decide)
  | emp => exact absurd (show (3 : Int) = 1 from hk) (by decide)
theorem ofQ_inj {p q : Rat} (h : ofQ p = ofQ q) : p = q := by
  have := congrArg qv h; rwa [qv_ofQ, qv_ofQ] at this
theorem mem_take1 {α : Type} {l : List α} {k : Nat} {r : α} (h : r ∈ l.take k) (hk : k ≤ 1) : r ∈ l.take 1 := by
  rcases Nat.lt_or_ge k 1 with h1 | h1
  · rw [show k = 0 by omega] at h; cases h
  · rwa [show k = 1 by omega] at h
theorem rwCs_take (cs : List Int) (b : Int) (k : Nat) : rwCs ⟨cs.take k, b⟩ = [.fr (sliceT 1 ((cs.map fun x => [intC x]).take k)), intC b] := by rw [← List.map_take]
set_option maxHeartbeats 16000000 in
theorem LinearRows_t3 (B0 : List Int) (hB : Bytes B0) (p : Nat) (N : Int) (rs : List Rw) (g : List Int) (O1 : Oc) (q1 q3 : Rat) (hv : validR N rs = true) (n0 : 0 ≤ N) (n1 : N ≤ 4) (rl : rs.length ≤ 6) (hrs : ∀ r ∈ rs, RowIn N r) (hk : okCoeffs N g = true)
    (s1 : Sol N.toNat rs g O1) (e1 : O1.value = ofQ q1) (k1 : O1.kind = 1) (l1 : (limbs (ofQ q1).num).length ≤ 9) (l2 : (limbs (ofQ q1).den).length ≤ 9) (l3 : (limbs (ofQ q3).num).length ≤ 9) (l4 : (limbs (ofQ q3).den).length ≤ 9) (hle : q1 ≤ q3) (S : BSet) (w : World) :
    St { P := Tryz.prog, n := 219, S0 := S, w0 := w, bor := noBor } [(5, .own 0), (6, .ct (intC N)), (7, .ct (rowsC rs)), (8, .ct (intsC g)), (9, .own 1), (20, .own 2), (21, .ct (boolC true)), (22, .ct (intC 0))]
      [(2, .box 38 (frCs (ofQ q3))), (1, .box 38 (frCs (ofQ q1))), (0, .box 82 (codes B0 p))]
      (seqR (seqR (seqR (seqR (seqR (seqR (seqR (seqR (seqR (seqR (seqR (seqR (bodyOf Tryz.f5)))))))))))))
      (bodyPost Tryz.prog Tryz.f5 (okPost { P := Tryz.prog, n := 219, S0 := S, w0 := w, bor := noBor } (boolC true))) := by
  have hC31 := rFCompare_q q3 q1 (by omega) (by omega) (by omega) (by omega)
  have hge := cmpQ_ge hle
  have key : ∀ tl : List Rw, (∀ r ∈ tl, RowIn N r) → tl.length ≤ 1 → ∃ O4 : Oc, Ok Tryz.prog 26 [intC N, rowsC (rs ++ tl), intsC g] (.fr (tupT [fracC O4.value, boolC (decide (O4.kind = 1)), intC 0])) ∧ (O4.kind = 1 → ∃ q4 : Rat, O4.value = ofQ q4 ∧ Ok Tryz.prog 25 [fracC (ofQ q1), fracC (ofQ q4)] (.fr (tupT [intC (cmpQ q1 q4), intC 0])) ∧ 0 ≤ cmpQ q1 q4) := fun tl htl hl1 => by
    have hr4 : ∀ r ∈ rs ++ tl, RowIn N r := fun r hr => (List.mem_append.1 hr).elim (hrs r) (htl r)
    have hl4 : (rs ++ tl).length ≤ 7 := by rw [List.length_append]; omega
    obtain ⟨O4, s4, T4⟩ := solve_ex (valid_dice n0 n1 (by omega) hr4) hk
    refine ⟨O4, Maximum_of N _ g O4 0 T4, fun k4 => ?_⟩
    obtain ⟨q, f4, a1, a2⟩ := sol_sz7 s4 hl4 k4
    obtain ⟨q4, q1', g1, g2, hle4⟩ := sol_mono s4 s1 (Imp.of_sub fun r hr => List.mem_append.2 (.inl hr)) k4 k1
    have h1 := ofQ_inj (g2.symm.trans e1)
    have h2 := ofQ_inj (g1.symm.trans f4)
    subst h1 h2
    exact ⟨q4, g1, rFCompare_q q1' q4 (by omega) (by omega) (by omega) (by omega), cmpQ_ge hle4⟩
  clear s1 e1 hk k1 hv hle l1 l2 l3 l4
  have hPr := Program_own B0 p hB
  (refine St.seq ?_; refine St.regionK (fun K hK => ?_); refine Ops.move rfl rfl rfl ?_)
  refine Ops.callP [(2, .box 38 (frCs (ofQ q3))), (1, .box 38 (frCs (ofQ q1)))] goProgram hPr rfl rfl rfl rfl rfl rfl rfl rfl rfl (fun q hq => ?_)
  obtain ⟨⟨n2, tl, c2, p2⟩, v⟩ := q
  obtain ⟨⟨m0, m1, tll, htl, _, _⟩, hv⟩ := hq
  dsimp only at m0 m1 tll htl hv ⊢
  refine Ops.move rfl rfl rfl ?_
  refine Ops.extract rfl rfl rfl rfl ?_
  refine Ops.extract rfl rfl rfl rfl ?_
  refine Ops.extract rfl rfl rfl rfl ?_
  refine Ops.assign rfl rfl rfl ?_
  refine Ops.assign rfl rfl rfl ?_
  refine Ops.link 24 9 rfl rfl ?_
  refine Ops.assign rfl rfl rfl ?_
  refine Ops.nil (hK _ _ ?_)
  clear hK K
  refine Fin.then ?_
  refine St.seq ?_
  refine St.cutN (α := List Rw) (fun tl' => (∀ r ∈ tl'.take 1, RowIn N r) ∧ tl'.length ≤ 6) (fun _ => [(6, .ct (intC N)), (7, .ct (rowsC rs)), (8, .ct (intsC g)), (9, .own 1), (20, .own 2), (21, .ct (boolC true)), (22, .ct (intC 0)), (24, .own 9)])
    (fun tl' => [(9, .row 57 2 (rws tl')), (2, .box 38 (frCs (ofQ q3))), (1, .box 38 (frCs (ofQ q1))), (0, .box 82 (codes B0 p2))]) (fun tl' hJ => ?_) (fun KK hN => ?_)
  rotate_left
  · (refine St.seq ?_; refine St.regionK (fun K hK => ?_); refine Ops.move rfl rfl rfl ?_)
    refine Ops.lenR tl.length rfl rfl rfl (by decide) (rws_len tl) (by with_reducible exact sRows.und) rfl ?_
    (refine Ops.ibin igtr rfl rfl rfl rfl ?_; refine Ops.move rfl rfl rfl ?_)
    refine Ops.splitP 160 rfl (fun hpos => ?_) (fun hpos => ?_)
    · have h0 : 0 < tl.length := by omega
      have c0 : (rws tl)[(0 : Int).toNat * 2 + 0]? = some (intsC (tl.getD 0 rw0).cs) := (el_cell (f := rwCs) rw_len rw0 h0 (by decide)).trans rfl
      have hrow := htl _ (getD_mem (z := rw0) h0)
      (refine Ops.move rfl rfl rfl ?_)
      refine Ops.idxR tl.length rfl rfl rfl (rws_len tl) rfl (by with_reducible exact sRows) (by decide) (by omega) rfl ?_
      refine Ops.fldA rfl rfl (by with_reducible exact fR0) rfl ?_
      refine Ops.ld1A rfl rfl rfl rfl c0 (by with_reducible exact lInts) rfl ?_
      (refine Ops.lenF rfl rfl (by with_reducible first | exact sNat.und | exact sInts.und) (List.length_map ..) rfl ?_; refine Ops.move rfl rfl rfl ?_; refine Ops.ibin igtr rfl rfl rfl rfl ?_; refine Ops.pickT rfl rfl rfl rfl ?_; refine Ops.nil (hK _ _ ?_); clear hK K; refine Fin.then ?_)
      refine St.condP rfl (fun hgt => ?_) (fun hgt => ?_)
      · (refine St.regionK (fun K hK => ?_); refine Ops.move rfl rfl rfl ?_; refine Ops.move rfl rfl rfl ?_)
        refine Ops.idxR tl.length rfl rfl rfl (rws_len tl) rfl (by with_reducible exact sRows) (by decide) (by omega) rfl ?_
        refine Ops.fldA rfl rfl (by with_reducible exact fR0) rfl ?_
        refine Ops.ld1A rfl rfl rfl rfl c0 (by with_reducible exact lInts) rfl ?_
        (refine Ops.move rfl rfl rfl ?_)
        refine Ops.cutHi rfl rfl rfl (by with_reducible exact sInts) (by omega) (by rw [List.length_map]; omega) rfl ?_
        refine Ops.idxR tl.length rfl rfl rfl (rws_len tl) rfl (by with_reducible exact sRows) (by decide) (by omega) rfl ?_
        refine Ops.fldA rfl rfl (by with_reducible exact fR0) rfl ?_
        refine stE1 (l := tl) (j := 0) (o := 0) rwCs rw0 ⟨(tl.getD 0 rw0).cs.take N.toNat, (tl.getD 0 rw0).b⟩ rw_len rfl rfl rfl rfl rfl h0 (by decide) (by rw [rwCs_take]; rfl) (by with_reducible exact zIntsD) ?_
        (refine Ops.nil (hK _ _ ?_); clear hK K)
        refine Fin.fam hN (tl.set 0 ⟨(tl.getD 0 rw0).cs.take N.toNat, (tl.getD 0 rw0).b⟩) ⟨?_, by rw [List.length_set]; exact tll⟩ (by exact Entails.of rfl ⟨rfl, rfl, rfl, rfl, rfl, rfl, rfl, rfl, trivial⟩)
        intro r hr
        cases tl with
        | nil => exact absurd h0 (by decide)
        | cons x xs =>
          rw [List.set_cons_zero] at hr
          obtain rfl : r = _ := by simpa using hr
          refine ⟨?_, fun y hy => hrow.lo y (List.mem_of_mem_take hy), hrow.b1, hrow.b2⟩
          simp only [List.length_take]; omega
      · (refine St.skip ?_)
        refine Fin.fam hN tl ⟨?_, tll⟩ (by exact Entails.of rfl ⟨rfl, rfl, rfl, rfl, rfl, rfl, rfl, rfl, trivial⟩)
        intro r hr
        cases tl with
        | nil => exact absurd h0 (by decide)
        | cons x xs =>
          obtain rfl : r = x := by simpa using hr
          exact ⟨by have : ¬ N < (r.cs.length : Int) := hgt; omega, hrow.lo, hrow.b1, hrow.b2⟩
    · (refine Ops.skip rfl rfl rfl ?_; refine Ops.skip rfl rfl rfl ?_; refine Ops.skip rfl rfl rfl ?_; refine Ops.skip rfl rfl rfl ?_; refine Ops.skip rfl rfl rfl ?_; refine Ops.skip rfl rfl rfl ?_; refine Ops.skip rfl rfl rfl ?_; refine Ops.pickF rfl rfl rfl rfl ?_; refine Ops.nil (hK _ _ ?_); clear hK K; refine Fin.then ?_; refine St.condF rfl ?_; refine St.skip ?_)
      refine Fin.fam hN tl ⟨?_, tll⟩ (by exact Entails.of rfl ⟨rfl, rfl, rfl, rfl, rfl, rfl, rfl, rfl, trivial⟩)
      intro r hr
      cases tl with
      | nil => cases hr
      | cons x xs => simp at hpos
  obtain ⟨ht1, ht2⟩ := hJ
  refine St.freeze 9 _ rfl (rws_frozen _ _) noBor_sub ?_
  have hmin : (min (tl'.length : Int) 1).toNat ≤ 1 := by omega
  have hmin2 : (min (tl'.length : Int) 1).toNat ≤ tl'.length := by omega
  obtain ⟨O4, M4, h4⟩ := key (tl'.take (min (tl'.length : Int) 1).toNat) (fun r hr => ht1 r (mem_take1 hr hmin)) (by rw [List.length_take]; omega)
  (refine St.seq ?_)
  refine St.drawK (by with_reducible exact mixed) 1 (.p 0 (.p 2 (.p 3 (.p 4 (.p 5 (.p 6 (.a 1 (.a 7 (.p 8 .done))))))))) (by kernel_rfl) (fun K hK => ?_)
  (refine Ops.move rfl rfl rfl ?_; refine Ops.move rfl rfl rfl ?_; refine Ops.move rfl rfl rfl ?_; refine Ops.lenF rfl rfl (by with_reducible first | exact sFracs.und | exact sRows.und) (List.length_map ..) rfl ?_; refine Ops.min2 rfl rfl rfl rfl ?_)
  refine Ops.cutHi rfl rfl rfl (by with_reducible exact sRows) (by omega) (by rw [List.length_map]; exact hmin2) rfl ?_
  generalize (min (tl'.length : Int) 1).toNat = k0 at hmin hmin2 M4 h4 ⊢
  refine Ops.appNil 3 rfl rfl rfl (by with_reducible exact sRows) (el_ones (fun _ => rfl) rs) (by rw [List.length_map]; omega) (by rw [List.length_map]; omega) rfl rfl rfl ?_
  refine Ops.append rs.length (rws (rs ++ tl'.take k0)) rfl rfl rfl rfl (by with_reducible exact sRows) (rws_len rs) (by rw [← List.map_take]; exact el_ones (fun _ => rfl) _) (by rw [List.length_take, List.length_map]; omega) (by rw [List.length_take, List.length_map]; omega) (by rw [← List.map_take]; show ((rs ++ _).map rwCs).flatten = _; rw [List.map_append, List.flatten_append]) rfl ?_
  refine Ops.freeze 3 _ rfl (rws_frozen _ _) noBor_sub ?_
  clear hmin hmin2 ht1
  (refine Ops.assign rfl rfl rfl ?_; refine Ops.nil (hK _ _ ?_); clear hK K; refine Fin.then ?_; refine St.seq ?_; refine St.regionK (fun K hK => ?_); refine Ops.move rfl rfl rfl ?_; refine Ops.move rfl rfl rfl ?_; refine Ops.move rfl rfl rfl ?_)
  refine Ops.call goMaximum M4 rfl rfl rfl rfl ?_
  (refine Ops.move rfl rfl rfl ?_; refine Ops.extract rfl rfl rfl rfl ?_; refine Ops.extract rfl rfl rfl rfl ?_; refine Ops.extract rfl rfl rfl rfl ?_; refine Ops.alloc 3 rfl rfl (by with_reducible first | exact zvFrac) rfl rfl rfl ?_; refine Ops.stWN 3 rfl rfl rfl rfl rfl (by with_reducible exact szFrac) rfl rfl ?_; refine Ops.assign rfl rfl rfl ?_; refine Ops.assign rfl rfl rfl ?_; refine Ops.nil (hK _ _ ?_); clear hK K; refine Fin.then ?_; refine St.seq ?_; refine St.seq ?_; refine St.regionK (fun K hK => ?_); refine Ops.move rfl rfl rfl ?_; refine Ops.ibin ineq rfl rfl rfl rfl ?_; refine Ops.move rfl rfl rfl ?_; refine Ops.move rfl rfl rfl ?_; refine Ops.ibin ineq rfl rfl rfl rfl ?_; refine Ops.pickF rfl rfl rfl rfl ?_; refine Ops.nil (hK _ _ ?_); clear hK K; refine Fin.then ?_; refine St.condF rfl ?_; refine St.skip ?_; refine Fin.then ?_; refine St.seq ?_; refine St.seq ?_; refine St.regionK (fun K hK => ?_); refine Ops.move rfl rfl rfl ?_; refine Ops.nil (hK _ _ ?_); clear hK K; refine Fin.then ?_)
  refine St.cutN (α := Unit) (fun _ => True) (fun _ => [(9, .own 1), (20, .own 2), (21, .ct (boolC true))])
    (fun _ => [(2, .box 38 (frCs (ofQ q3))), (1, .box 38 (frCs (ofQ q1)))]) (fun _ _ => ?_) (fun KK hN => ?_)
  rotate_left
  · refine St.condP rfl (fun k4 => ?_) (fun k4 => ?_)
    · obtain ⟨q4, f4, C4, ge4⟩ := h4 k4
      rw [f4]
      (refine St.seq ?_; refine St.regionK (fun K hK => ?_); refine Ops.ldNO (n := 3) rfl rfl rfl rfl rfl (by with_reducible exact lFrac) rfl ?_; refine Ops.ldNO (n := 3) rfl rfl rfl rfl rfl (by with_reducible exact lFrac) rfl ?_)
      refine Ops.call gorFCompareQ C4 rfl rfl rfl rfl ?_
      (refine Ops.move rfl rfl rfl ?_; refine Ops.extract rfl rfl rfl rfl ?_; refine Ops.extract rfl rfl rfl rfl ?_; refine Ops.assign rfl rfl rfl ?_; refine Ops.assign rfl rfl rfl ?_; refine Ops.nil (hK _ _ ?_); clear hK K; refine Fin.then ?_; refine St.seq ?_; refine St.regionK (fun K hK => ?_); refine Ops.move rfl rfl rfl ?_; refine Ops.ibin ilss rfl rfl rfl rfl ?_; refine Ops.nil (hK _ _ ?_); clear hK K; refine Fin.then ?_)
      refine St.condP rfl (fun h => absurd h (by omega)) (fun _ => ?_)
      (refine St.skip ?_)
      refine Fin.dropB 3 (Fin.dropB 0 ?_)
      exact Fin.fam hN () trivial (by exact Entails.of rfl ⟨rfl, rfl, rfl, trivial⟩)
    · (refine St.skip ?_)
      refine Fin.dropB 3 (Fin.dropB 0 ?_)
      exact Fin.fam hN () trivial (by exact Entails.of rfl ⟨rfl, rfl, rfl, trivial⟩)
  (refine St.seq ?_; refine St.seq ?_; refine St.regionK (fun K hK => ?_); refine Ops.move rfl rfl rfl ?_; refine Ops.inot rfl rfl rfl ?_; refine Ops.nil (hK _ _ ?_); clear hK K; refine Fin.then ?_; refine St.condF rfl ?_; refine St.skip ?_; refine Fin.then ?_; refine St.seq ?_; refine St.regionK (fun K hK => ?_); refine Ops.ldNO (n := 3) rfl rfl rfl rfl rfl (by with_reducible exact lFrac) rfl ?_; refine Ops.ldNO (n := 3) rfl rfl rfl rfl rfl (by with_reducible exact lFrac) rfl ?_)
  refine Ops.call gorFCompareQ hC31 rfl rfl rfl rfl ?_
  (refine Ops.move rfl rfl rfl ?_; refine Ops.extract rfl rfl rfl rfl ?_; refine Ops.extract rfl rfl rfl rfl ?_; refine Ops.assign rfl rfl rfl ?_; refine Ops.assign rfl rfl rfl ?_; refine Ops.nil (hK _ _ ?_); clear hK K; refine Fin.then ?_; refine St.seq ?_; refine St.regionK (fun K hK => ?_); refine Ops.move rfl rfl rfl ?_; refine Ops.ibin igeq rfl rfl rfl rfl ?_; refine Ops.assign rfl rfl rfl ?_; refine Ops.nil (hK _ _ ?_); clear hK K; refine Fin.then ?_; refine St.ret ?_)
  refine Fin.ret [_] rfl (AllRes.tmp rfl AllRes.nil) (by rw [decide_eq_true hge]; rfl) rfl
end Go.Proofs.YtdhmbgogmoaofaaGreat
namespace Go.Proofs.YtdhmbgogmoaofaaGreat
open Go.Own Go.Limbs
attribute [local irreducible] St Ops Go.Own.Fin Ok OkB OkN OkM wpA tf
def wider (r : Rw) (m : Int) : Rw := ⟨r.cs, min (r.b + m) 4503599627370496⟩
theorem wider_mem {rs : List Rw} {i : Nat} {m : Int} {r : Rw} (hi : i < rs.length) (h : r ∈ rs.set i (wider (rs.getD i rw0) m)) : r ∈ rs ∨ r = wider (rs.getD i rw0) m := List.mem_or_eq_of_mem_set h
theorem wider_spec {N : Int} {rs : List Rw} {i : Nat} {m : Int} (hi : i < rs.length) (hm : 0 ≤ m) (hm2 : m ≤ 1000) (hrs : ∀ r ∈ rs, RowIn N r) :
    (∀ r ∈ rs.set i (wider (rs.getD i rw0) m), RowIn N r) ∧ Imp rs (rs.set i (wider (rs.getD i rw0) m)) ∧ CovR (rs.set i (wider (rs.getD i rw0) m)) rs := by
  have hmem := getD_mem (z := rw0) hi
  have h0 := hrs _ hmem
  refine ⟨fun r hr => ?_, fun r hr => ?_, fun r hr => ?_⟩
  · rcases wider_mem hi hr with h | rfl
    · exact hrs r h
    · have b1 := h0.b1
      have b2 := h0.b2
      exact ⟨h0.len, h0.lo, by show _ ≤ min _ _; omega, by show min _ _ ≤ _; omega⟩
  · rcases wider_mem hi hr with h | rfl
    · exact ⟨r, h, rfl, Int.le_refl _⟩
    · have b2 := h0.b2
      exact ⟨_, hmem, rfl, by show _ ≤ min _ _; omega⟩
  · obtain ⟨j, hj, rfl⟩ := List.getElem_of_mem hr
    by_cases hij : i = j
    · subst hij
      refine ⟨wider (rs.getD i rw0) m, List.mem_of_getElem? (i := i) (by rw [List.getElem?_set_self hi]), ?_⟩
      show (rs.getD i rw0).cs = _
      simp [List.getD_eq_getElem?_getD, List.getElem?_eq_getElem hi]
    · exact ⟨rs[j], List.mem_of_getElem? (i := j) (by rw [List.getElem?_set_ne hij, List.getElem?_eq_getElem hj]), rfl⟩
set_option maxHeartbeats 16000000 in
theorem LinearRows_t2 (B0 : List Int) (hB : Bytes B0) (p : Nat) (mo : Int) (hmo : 0 ≤ mo ∧ mo < 256) (N : Int) (rs : List Rw) (g : List Int) (O1 : Oc) (q1 : Rat) (hv : validR N rs = true) (n0 : 0 ≤ N) (n1 : N ≤ 4) (rl : rs.length ≤ 6) (hrs : ∀ r ∈ rs, RowIn N r) (hk : okCoeffs N g = true)
    (s1 : Sol N.toNat rs g O1) (e1 : O1.value = ofQ q1) (k1 : O1.kind = 1) (l1 : (limbs (ofQ q1).num).length ≤ 9) (l2 : (limbs (ofQ q1).den).length ≤ 9) (S : BSet) (w : World) :
    St { P := Tryz.prog, n := 219, S0 := S, w0 := w, bor := noBor } [(1, .ct (.ex (.int .u8 mo))), (5, .own 0), (6, .ct (intC N)), (7, .ct (rowsC rs)), (8, .ct (intsC g)), (9, .own 1)]
      [(1, .box 38 (frCs (ofQ q1))), (0, .box 82 (codes B0 p))]
      (seqR (seqR (seqR (seqR (seqR (seqR (seqR (seqR (seqR (bodyOf Tryz.f5))))))))))
      (bodyPost Tryz.prog Tryz.f5 (okPost { P := Tryz.prog, n := 219, S0 := S, w0 := w, bor := noBor } (boolC true))) := by
  refine St.seq ?_
  refine St.regionK (fun K hK => ?_)
  refine Ops.move rfl rfl rfl ?_
  refine Ops.appNil 3 rfl rfl rfl (by with_reducible exact sRows) (el_ones (fun _ => rfl) rs) (by rw [List.length_map]; omega) (by rw [List.length_map]; omega) rfl rfl rfl ?_
  refine Ops.assign rfl rfl rfl ?_
  refine Ops.nil (hK _ _ ?_)
  clear hK K
  refine Fin.then ?_
  refine St.seq ?_
  refine St.cutN (α := List Rw × Nat) (fun x => x.1.length = rs.length ∧ (∀ r ∈ x.1, RowIn N r) ∧ Imp rs x.1 ∧ CovR x.1 rs) (fun _ => [(5, .own 0), (6, .ct (intC N)), (7, .ct (rowsC rs)), (8, .ct (intsC g)), (9, .own 1), (18, .own 3)])
    (fun x => [(3, .row 57 2 (rws x.1)), (1, .box 38 (frCs (ofQ q1))), (0, .box 82 (codes B0 x.2))]) (fun x hJ => ?_) (fun KK hN => ?_)
  rotate_left
  · (refine St.seq ?_; refine St.regionK (fun K hK => ?_); refine Ops.move rfl rfl rfl ?_)
    refine Ops.lenR rs.length rfl rfl rfl (by decide) (rws_len rs) (by with_reducible exact sRows.und) rfl ?_
    (refine Ops.ibin igtr rfl rfl rfl rfl ?_; refine Ops.nil (hK _ _ ?_); clear hK K; refine Fin.then ?_)
    refine St.condP rfl (fun hpos => ?_) (fun hpos => ?_)
    · (refine St.seq ?_; refine St.regionK (fun K hK => ?_); refine Ops.move rfl rfl rfl ?_; refine Ops.move rfl rfl rfl ?_)
      refine Ops.lenR rs.length rfl rfl rfl (by decide) (rws_len rs) (by with_reducible exact sRows.und) rfl ?_
      refine Ops.callB goNext (Next_ok B0 p rs.length (by omega) (by omega) hB) rfl rfl rfl rfl rfl (fun q hq => ?_)
      obtain ⟨k, p1⟩ := q
      dsimp only at hq ⊢
      obtain ⟨i, rfl⟩ := Int.eq_ofNat_of_zero_le hq.1
      have hi : i < rs.length := by omega
      have e2 : (i : Int).toNat = i := Int.toNat_natCast i
      obtain ⟨w1, w2, w3⟩ := wider_spec hi hmo.1 (by omega) hrs
      have hr0 := hrs _ (getD_mem (z := rw0) hi)
      have c1 : (rws rs)[i * 2 + 1]? = some (intC (rs.getD i rw0).b) := (el_cell (f := rwCs) rw_len rw0 hi (by decide)).trans rfl
      have hb1 := hr0.b1
      have hb2 := hr0.b2
      (refine Ops.assign rfl rfl rfl ?_; refine Ops.nil (hK _ _ ?_); clear hK K; refine Fin.then ?_; refine St.regionK (fun K hK => ?_); refine Ops.move rfl rfl rfl ?_; refine Ops.move rfl rfl rfl ?_; refine Ops.move rfl rfl rfl ?_; refine Ops.move rfl rfl rfl ?_)
      refine Ops.idxR rs.length rfl rfl rfl (rws_len rs) rfl (by with_reducible exact sRows) (by omega) (by omega) rfl ?_
      rw [e2]
      refine Ops.fldA rfl rfl (by with_reducible exact fR1) rfl ?_
      refine Ops.ld1A rfl rfl rfl rfl c1 (by with_reducible exact lInt) rfl ?_
      (refine Ops.move rfl rfl rfl ?_)
      refine Ops.conv rfl rfl Tryz.underlying5 Tryz.underlying3 (q := mo) (wrap_id (by omega) (by omega)) rfl ?_
      (refine Ops.ibin (iadd (by omega) (by omega)) rfl rfl rfl rfl ?_; refine Ops.min2 rfl rfl rfl rfl ?_)
      refine Ops.idxR rs.length rfl rfl rfl (rws_len rs) rfl (by with_reducible exact sRows) (by omega) (by omega) rfl ?_
      rw [e2]
      refine Ops.fldA rfl rfl (by with_reducible exact fR1) rfl ?_
      refine stE1 (l := rs) (j := i) (o := 1) rwCs rw0 (wider (rs.getD i rw0) mo) rw_len rfl rfl rfl rfl rfl hi (by decide) rfl (by with_reducible exact zInt) ?_
      (refine Ops.nil (hK _ _ ?_); clear hK K)
      refine Fin.fam hN (rs.set i (wider (rs.getD i rw0) mo), p1) ⟨by simp, w1, w2, w3⟩ (by exact Entails.of rfl ⟨rfl, rfl, rfl, rfl, rfl, rfl, trivial⟩)
    · (refine St.skip ?_)
      refine Fin.fam hN (rs, p) ⟨rfl, hrs, Imp.of_sub fun r hr => hr, (Imp.of_sub fun r hr => hr).cov⟩ (by exact Entails.of rfl ⟨rfl, rfl, rfl, rfl, rfl, rfl, trivial⟩)
  obtain ⟨wd, p1⟩ := x
  obtain ⟨j1, j2, j3, j4⟩ := hJ
  dsimp only at j1 j2 j3 j4 ⊢
  obtain ⟨O3, s3, T3⟩ := solve_ex (valid_dice n0 n1 (by omega) j2) hk
  have k3 := sol_keep s1 s3 j3 j4 k1
  have M3 := Maximum_of N wd g O3 0 T3
  obtain ⟨q, f3, a1, a2⟩ := sol_sz s3 (by omega) k3
  obtain ⟨q1', q3, g1, g2, hle⟩ := sol_mono s1 s3 j3 k1 k3
  have h1 := ofQ_inj (g1.symm.trans e1)
  have h2 := ofQ_inj (g2.symm.trans f3)
  subst h1 h2
  rw [decide_eq_true k3, f3] at M3
  refine St.freeze 3 _ rfl (rws_frozen _ _) noBor_sub ?_
  refine St.seq ?_
  refine St.regionK (fun K hK => ?_)
  refine Ops.move rfl rfl rfl ?_
  refine Ops.move rfl rfl rfl ?_
  refine Ops.move rfl rfl rfl ?_
  refine Ops.call goMaximum M3 rfl rfl rfl rfl ?_
  refine Ops.move rfl rfl rfl ?_
  refine Ops.extract rfl rfl rfl rfl ?_
  refine Ops.extract rfl rfl rfl rfl ?_
  refine Ops.extract rfl rfl rfl rfl ?_
  refine Ops.alloc 2 rfl rfl (by with_reducible exact zvFrac) rfl rfl rfl ?_
  refine Ops.stWN 3 rfl rfl rfl rfl rfl (by with_reducible exact szFrac) rfl rfl ?_
  refine Ops.assign rfl rfl rfl ?_
  refine Ops.assign rfl rfl rfl ?_
  refine Ops.nil (hK _ _ ?_)
  clear hK K
  refine Fin.then ?_
  refine St.keep [(5, .own 0), (6, .ct (intC N)), (7, .ct (rowsC rs)), (8, .ct (intsC g)), (9, .own 1), (20, .own 2), (21, .ct (boolC true)), (22, .ct (intC 0))] ⟨rfl, rfl, rfl, rfl, rfl, rfl, rfl, rfl, trivial⟩ ?_
  exact LinearRows_t3 B0 hB p1 N rs g O1 q1' q3 hv n0 n1 rl hrs hk s1 e1 k1 l1 l2 a1 a2 hle S w
end Go.Proofs.YtdhmbgogmoaofaaGreat
namespace Go.Proofs.YtdhmbgogmoaofaaGreat
open Go.Own Go.Limbs
attribute [local irreducible] St Ops Go.Own.Fin Ok OkB OkN OkM wpA tf
def swR (l : List Rw) (i k : Nat) : List Rw := (l.set i (l.getD k rw0)).set k (l.getD i rw0)
theorem swR_len (l : List Rw) (i k : Nat) : (swR l i k).length = l.length := by simp [swR]
theorem swR_mem {l : List Rw} {i k : Nat} (hi : i < l.length) (hk : k < l.length) (r : Rw) : r ∈ swR l i k ↔ r ∈ l := by
  have ei : l.getD i rw0 = l[i] := by simp [List.getD_eq_getElem?_getD, List.getElem?_eq_getElem hi]
  have ek : l.getD k rw0 = l[k] := by simp [List.getD_eq_getElem?_getD, List.getElem?_eq_getElem hk]
  unfold swR
  rw [ei, ek]
  constructor
  · intro h
    rcases List.mem_or_eq_of_mem_set h with h | rfl
    · rcases List.mem_or_eq_of_mem_set h with h | rfl
      · exact h
      · exact List.getElem_mem hk
    · exact List.getElem_mem hi
  · intro h
    obtain ⟨j, hj, rfl⟩ := List.getElem_of_mem h
    by_cases h1 : j = i
    · subst h1
      exact List.mem_of_getElem? (i := k) (by rw [List.getElem?_set_self (by simpa using hk)])
    · by_cases h2 : j = k
      · subst h2
        exact List.mem_of_getElem? (i := i) (by rw [List.getElem?_set_ne h1, List.getElem?_set_self hi])
      · exact List.mem_of_getElem? (i := j) (by rw [List.getElem?_set_ne (Ne.symm h2), List.getElem?_set_ne (Ne.symm h1), List.getElem?_eq_getElem hj])
theorem sol_v0 {n : Nat} {rs : List Rw} {c : List Int} {O : Oc} (h : Sol n rs c O) (hk : O.kind ≠ 1) : O.value = frz0 := by
  cases h with
  | opt => exact absurd rfl hk
  | unb => rfl
  | emp => rfl
set_option maxHeartbeats 16000000 in
theorem LinearRows_ok (bs : List Int) (mo : Int) (hb : ∀ b ∈ bs, 0 ≤ b ∧ b < 256) (hmo : 0 ≤ mo ∧ mo < 256) :
    Ok Tryz.prog 5 [bytesC bs, .ex (.int .u8 mo)] (boolC true) := by
  refine Ok.enter Tryz.func5 rfl _ Tryz.ntmps5 rfl ?_
  intro S w
  have hB : Bytes (bs.take 400) := ⟨fun b h => (hb b (List.mem_of_mem_take h)).1, fun b h => (hb b (List.mem_of_mem_take h)).2, by simp; omega⟩
  have hRoll := Roll_ok bs
  generalize bs.take 400 = B0 at hB hRoll
  (refine St.seq ?_; refine St.regionK (fun K hK => ?_); refine Ops.assign rfl rfl rfl ?_; refine Ops.nil (hK _ _ ?_); clear hK K; refine Fin.then ?_; refine St.seq ?_; refine St.seq ?_; refine St.regionK (fun K hK => ?_))
  refine Ops.call goawake34 awake34_ok rfl rfl rfl rfl ?_
  (refine Ops.inot rfl rfl rfl ?_; refine Ops.nil (hK _ _ ?_); clear hK K; refine Fin.then ?_; refine St.condF rfl ?_; refine St.skip ?_; refine Fin.then ?_; refine St.seq ?_; refine St.regionK (fun K hK => ?_); refine Ops.move rfl rfl rfl ?_)
  refine Ops.callN 0 goRoll hRoll rfl rfl rfl rfl rfl rfl ?_
  (refine Ops.assign rfl rfl rfl ?_; refine Ops.nil (hK _ _ ?_); clear hK K; refine Fin.then ?_; refine St.seq ?_; refine St.regionK (fun K hK => ?_); refine Ops.move rfl rfl rfl ?_)
  refine Ops.callP [] goProgram (Program_own B0 0 hB) rfl rfl rfl rfl rfl rfl rfl rfl rfl (fun q hq => ?_)
  obtain ⟨⟨N, rs, g, p1⟩, v⟩ := q
  obtain ⟨⟨n0, n1, rl, hrs, cl, hc⟩, hv0⟩ := hq
  dsimp only at n0 n1 rl hrs cl hc hv0 ⊢
  refine Ops.move rfl rfl rfl ?_
  refine Ops.extract rfl rfl rfl rfl ?_
  refine Ops.extract rfl rfl rfl rfl ?_
  refine Ops.extract rfl rfl rfl rfl ?_
  refine Ops.assign rfl rfl rfl ?_
  refine Ops.assign rfl rfl rfl ?_
  refine Ops.link 7 9 rfl rfl ?_
  refine Ops.freeze 9 _ rfl (rws_frozen _ _) noBor_sub ?_
  have hv := valid_dice n0 n1 (by omega) hrs
  have hk := okc_in cl (fun y hy => by have := hc y hy; omega)
  obtain ⟨O1, s1, T1⟩ := solve_ex hv hk
  have M1 := Maximum_of N rs g O1 0 T1
  clear T1
  (refine Ops.assign rfl rfl rfl ?_; refine Ops.nil (hK _ _ ?_); clear hK K; refine Fin.then ?_; refine St.seq ?_; refine St.regionK (fun K hK => ?_); refine Ops.move rfl rfl rfl ?_; refine Ops.move rfl rfl rfl ?_; refine Ops.move rfl rfl rfl ?_)
  refine Ops.call goMaximum M1 rfl rfl rfl rfl ?_
  (refine Ops.move rfl rfl rfl ?_; refine Ops.extract rfl rfl rfl rfl ?_; refine Ops.extract rfl rfl rfl rfl ?_; refine Ops.extract rfl rfl rfl rfl ?_; refine Ops.alloc 1 rfl rfl (by with_reducible first | exact zvFrac) rfl rfl rfl ?_; refine Ops.stWN 3 rfl rfl rfl rfl rfl (by with_reducible exact szFrac) rfl rfl ?_; refine Ops.assign rfl rfl rfl ?_; refine Ops.assign rfl rfl rfl ?_; refine Ops.nil (hK _ _ ?_); clear hK K; refine Fin.then ?_; refine St.seq ?_; refine St.regionK (fun K hK => ?_); refine Ops.move rfl rfl rfl ?_)
  refine Ops.appNil 3 rfl rfl rfl (by with_reducible exact sRows) (el_ones (fun _ => rfl) rs) (by rw [List.length_map]; omega) (by rw [List.length_map]; omega) rfl rfl rfl ?_
  (refine Ops.assign rfl rfl rfl ?_; refine Ops.nil (hK _ _ ?_); clear hK K; refine Fin.then ?_; refine St.seq ?_; refine St.seq ?_; refine St.regionK (fun K hK => ?_); refine Ops.move rfl rfl rfl ?_)
  refine Ops.lenR rs.length rfl rfl rfl (by decide) (rws_len rs) (by with_reducible exact sRows.und) rfl ?_
  (refine Ops.move rfl rfl rfl ?_; refine Ops.nil (hK _ _ ?_); clear hK K; refine Fin.then ?_; refine St.block ?_)
  refine St.loop (α := Nat × List Rw × Nat) (fun x => x.1 ≤ rs.length ∧ x.2.1.length = rs.length ∧ ∀ r, r ∈ x.2.1 ↔ r ∈ rs)
    (fun x => [(1, .ct (.ex (.int .u8 mo))), (5, .own 0), (6, .ct (intC N)), (7, .ct (rowsC rs)), (8, .ct (intsC g)), (9, .own 1), (10, .ct (boolC (decide (O1.kind = 1)))), (11, .ct (intC 0)), (12, .own 3), (54, .ct (intC rs.length)), (55, .ct (intC x.1))])
    (fun x => [(3, .row 57 2 (rws x.2.1)), (1, .box 38 (frCs O1.value)), (0, .box 82 (codes B0 x.2.2))]) (fun x => rs.length - x.1) (0, rs, p1) ⟨Nat.zero_le _, rfl, fun _ => Iff.rfl⟩ (by exact Entails.of rfl ⟨rfl, rfl, rfl, rfl, rfl, rfl, rfl, rfl, rfl, rfl, rfl, trivial⟩) ?_
  rintro ⟨i, l, p2⟩ ⟨hi, hl, hmem⟩
  dsimp only at hi hl hmem ⊢
  (refine St.seq ?_; refine St.regionK (fun K hK => ?_); refine Ops.ibin ilss rfl rfl rfl rfl ?_; refine Ops.nil (hK _ _ ?_); clear hK K; refine Fin.then ?_; refine St.seq ?_)
  refine St.condP rfl (fun h => ?_) (fun h => ?_)
  · have e2 : (i : Int).toNat = i := Int.toNat_natCast i
    (refine St.skip ?_; refine Fin.then ?_; refine St.seq ?_; refine St.block ?_; refine St.seq ?_; refine St.regionK (fun K hK => ?_); refine Ops.move rfl rfl rfl ?_; refine Ops.assign rfl rfl rfl ?_; refine Ops.nil (hK _ _ ?_); clear hK K; refine Fin.then ?_; refine St.seq ?_; refine St.regionK (fun K hK => ?_); refine Ops.move rfl rfl rfl ?_; refine Ops.move rfl rfl rfl ?_; refine Ops.ibin (iadd (by omega) (by omega)) rfl rfl rfl rfl ?_)
    refine Ops.callB goNext (Next_ok B0 p2 (i + 1) (by omega) (by omega) hB) rfl rfl rfl rfl rfl (fun q hq => ?_)
    obtain ⟨k', p3⟩ := q
    dsimp only at hq ⊢
    obtain ⟨k, rfl⟩ := Int.eq_ofNat_of_zero_le hq.1
    have e3 : (k : Int).toNat = k := Int.toNat_natCast k
    (refine Ops.assign rfl rfl rfl ?_; refine Ops.nil (hK _ _ ?_); clear hK K; refine Fin.then ?_)
    refine St.drawK (by with_reducible exact mixed) 13 (.p 0 (.p 1 (.p 2 (.p 3 (.p 4 (.p 5 (.p 6 (.p 8 (.p 9 (.p 10 (.f 7 (.f 11 (.p 12 (.a 13 (.p 14 (.a 15 .done)))))))))))))))) (by kernel_rfl) (fun K hK => ?_)
    (refine Ops.move rfl rfl rfl ?_; refine Ops.move rfl rfl rfl ?_; refine Ops.move rfl rfl rfl ?_; refine Ops.move rfl rfl rfl ?_; refine Ops.move rfl rfl rfl ?_; refine Ops.move rfl rfl rfl ?_)
    refine Ops.idxR rs.length rfl rfl rfl (by rw [rws_len, hl]) rfl (by with_reducible exact sRows) (by omega) (by omega) rfl ?_
    rw [e3]
    (refine Ops.move rfl rfl rfl ?_; refine Ops.move rfl rfl rfl ?_)
    refine Ops.idxR rs.length rfl rfl rfl (by rw [rws_len, hl]) rfl (by with_reducible exact sRows) (by omega) (by omega) rfl ?_
    rw [e2]
    refine ldE (l := l) rwCs rw0 rw_len rfl rfl rfl rfl rfl (by omega) (by with_reducible exact lRow) rfl ?_
    refine ldE (l := l) rwCs rw0 rw_len rfl rfl rfl rfl rfl (by omega) (by with_reducible exact lRow) rfl ?_
    refine Ops.idxR rs.length rfl rfl rfl (by rw [rws_len, hl]) rfl (by with_reducible exact sRows) (by omega) (by omega) rfl ?_
    rw [e2]
    refine stE (l := l) rwCs (l.getD k rw0) rw_len rfl rfl rfl rfl rfl (by omega) (by with_reducible exact szRow) ?_
    refine Ops.idxR rs.length rfl rfl rfl (by rw [el_len rw_len, List.length_set, hl]) rfl (by with_reducible exact sRows) (by omega) (by omega) rfl ?_
    rw [e3]
    refine stE (l := l.set i (l.getD k rw0)) rwCs (l.getD i rw0) rw_len rfl rfl rfl rfl rfl (by rw [List.length_set]; omega) (by with_reducible exact szRow) ?_
    (refine Ops.nil (hK _ _ ?_); clear hK K; refine Fin.then ?_; refine St.regionK (fun K hK => ?_); refine Ops.ibin (iadd (by omega) (by omega)) rfl rfl rfl rfl ?_; refine Ops.move rfl rfl rfl ?_; refine Ops.nil (hK _ _ ?_); clear hK K; refine Fin.thenN ?_)
    refine Fin.next (i + 1, swR l i k, p3) (by dsimp only; omega) ⟨by dsimp only; omega, by dsimp only; rw [swR_len]; exact hl, fun r => (swR_mem (by omega) (by omega) r).trans (hmem r)⟩ (by exact Entails.of rfl ⟨rfl, rfl, rfl, rfl, rfl, rfl, rfl, rfl, rfl, rfl, by simp only [Int.natCast_add]; rfl, trivial⟩)
  refine St.freeze 3 _ rfl (rws_frozen _ _) noBor_sub ?_
  have hr2 : ∀ r ∈ l, RowIn N r := fun r hr => hrs r ((hmem r).1 hr)
  obtain ⟨O2, s2, T2⟩ := solve_ex (valid_dice n0 n1 (by omega) hr2) hk
  have M2 := Maximum_of N l g O2 0 T2
  obtain ⟨k12, v12⟩ := sol_perm s1 s2 hmem
  have ev : O2.value = O1.value := by
    by_cases k1 : O1.kind = 1
    · exact v12 k1
    · rw [sol_v0 s1 k1, sol_v0 s2 (fun h => k1 (k12.1 h))]
  have ek : decide (O2.kind = 1) = decide (O1.kind = 1) := decide_eq_decide.2 k12
  rw [ev, ek] at M2
  have hE : Ok Tryz.prog 19 [fracC O1.value, fracC O1.value] (boolC true) := by
    by_cases k1 : O1.kind = 1
    · obtain ⟨q, f, a1, a2⟩ := sol_sz s1 rl k1
      exact Equal_refl _ (by rw [f]; omega) (by rw [f]; omega)
    · rw [sol_v0 s1 k1]
      exact Equal_refl frz0 (by decide +kernel) (by decide +kernel)
  clear T2 s2 k12 v12 ev ek hr2 hmem
  (refine St.exit ?_; refine Fin.then ?_; refine St.seq ?_; refine St.regionK (fun K hK => ?_); refine Ops.move rfl rfl rfl ?_; refine Ops.move rfl rfl rfl ?_; refine Ops.move rfl rfl rfl ?_)
  refine Ops.call goMaximum M2 rfl rfl rfl rfl ?_
  (refine Ops.move rfl rfl rfl ?_; refine Ops.extract rfl rfl rfl rfl ?_; refine Ops.extract rfl rfl rfl rfl ?_; refine Ops.extract rfl rfl rfl rfl ?_; refine Ops.alloc 2 rfl rfl (by with_reducible first | exact zvFrac) rfl rfl rfl ?_; refine Ops.stWN 3 rfl rfl rfl rfl rfl (by with_reducible exact szFrac) rfl rfl ?_; refine Ops.assign rfl rfl rfl ?_; refine Ops.assign rfl rfl rfl ?_; refine Ops.nil (hK _ _ ?_); clear hK K; refine Fin.then ?_; refine St.seq ?_; refine St.seq ?_; refine St.regionK (fun K hK => ?_); refine Ops.move rfl rfl rfl ?_; refine Ops.ibin ineq rfl rfl rfl rfl ?_; refine Ops.move rfl rfl rfl ?_; refine Ops.move rfl rfl rfl ?_; refine Ops.ibin ineq rfl rfl rfl rfl ?_; refine Ops.pickF rfl rfl rfl rfl ?_; refine Ops.move rfl rfl rfl ?_; refine Ops.move rfl rfl rfl ?_; refine Ops.move rfl rfl rfl ?_)
  refine Ops.bne rfl rfl rfl (by with_reducible exact uBool) rfl ?_
  (refine Ops.pickF rfl rfl rfl rfl ?_; refine Ops.move rfl rfl rfl ?_)
  refine Ops.splitP 96 rfl (fun h => absurd rfl h) (fun _ => ?_)
  (refine Ops.ldNO (n := 3) rfl rfl rfl rfl rfl (by with_reducible exact lFrac) rfl ?_; refine Ops.ldNO (n := 3) rfl rfl rfl rfl rfl (by with_reducible exact lFrac) rfl ?_)
  refine Ops.call goEqual hE rfl rfl rfl rfl ?_
  (refine Ops.inot rfl rfl rfl ?_; refine Ops.pickF rfl rfl rfl rfl ?_; refine Ops.move rfl rfl rfl ?_; refine Ops.move rfl rfl rfl ?_; refine Ops.inot rfl rfl rfl ?_; refine Ops.pickF rfl rfl rfl rfl ?_; refine Ops.nil (hK _ _ ?_); clear hK K; refine Fin.then ?_)
  refine St.condB rfl (fun h => ?_) (fun h => ?_)
  · (refine St.seq ?_; refine St.regionK (fun K hK => ?_); refine Ops.move rfl rfl rfl ?_; refine Ops.ibin ieql rfl rfl rfl rfl ?_; refine Ops.move rfl rfl rfl ?_; refine Ops.move rfl rfl rfl ?_; refine Ops.ibin ieql rfl rfl rfl rfl ?_; refine Ops.pickT rfl rfl rfl rfl ?_; refine Ops.move rfl rfl rfl ?_; refine Ops.move rfl rfl rfl ?_; refine Ops.move rfl rfl rfl ?_)
    refine Ops.beq rfl rfl rfl (by with_reducible exact uBool) rfl ?_
    rw [decide_eq_true (show decide (O1.kind = 1) = decide (O1.kind = 1) from rfl)]
    (refine Ops.pickT rfl rfl rfl rfl ?_; refine Ops.move rfl rfl rfl ?_; refine Ops.move rfl rfl rfl ?_; refine Ops.inot rfl rfl rfl ?_; refine Ops.pickT rfl rfl rfl rfl ?_; refine Ops.assign rfl rfl rfl ?_; refine Ops.nil (hK _ _ ?_); clear hK K; refine Fin.then ?_; refine St.ret ?_; refine Fin.thenRet ?_)
    refine Fin.ret [_] rfl (AllRes.tmp rfl AllRes.nil) (by rw [h]; rfl) rfl
  · have k1 : O1.kind = 1 := by simpa using h
    obtain ⟨q1, f1, a1, a2⟩ := sol_sz s1 rl k1
    refine St.skip ?_
    refine Fin.then ?_
    refine St.dropB 2 ?_
    rw [f1]
    refine St.keep [(1, .ct (.ex (.int .u8 mo))), (5, .own 0), (6, .ct (intC N)), (7, .ct (rowsC rs)), (8, .ct (intsC g)), (9, .own 1)] ⟨rfl, rfl, rfl, rfl, rfl, rfl, trivial⟩ ?_
    exact LinearRows_t2 B0 hB p2 mo hmo N rs g O1 q1 hv n0 n1 rl hrs hk s1 f1 k1 a1 a2 S w
end Go.Proofs.YtdhmbgogmoaofaaGreat
namespace Go.Proofs.YtdhmbgogmoaofaaGreat
open Go.Own Go.Limbs
attribute [local irreducible] St Ops Go.Own.Fin Ok OkB OkN OkM wpA
structure Rf where
  neg : Bool
  xs : List Int
  ys : List Int
def rf0 : Rf := ⟨false, [], []⟩
abbrev rfCs (f : Rf) : List CT := [boolC f.neg, intsC f.xs, intsC f.ys]
abbrev rfsC (x : List Rf) : CT := .fr (sliceT 3 (x.map rfCs))
def okRf (f : Rf) : Bool := (decide (f.xs.length ≤ 6) && decide (f.ys.length ≤ 6)) && fvalidL f.neg f.xs f.ys
def smallB (rs : List Rw) (c : List Int) (x : List Rf) : Bool := (decide (rs.length ≤ 6) && decide (c.length ≤ 6) && decide (x.length ≤ 6)) && (rs.all (fun r => decide (r.cs.length ≤ 6)) && x.all okRf)
end Go.Proofs.YtdhmbgogmoaofaaGreat
namespace Go.Proofs.YtdhmbgogmoaofaaGreat
open Go.Own Go.Limbs
section
variable {H : Type} {enc : TypeId × Value → H} {P : Program} {w : World} {base : Nat} {spare : Nat → Bool} {held : Bool}
theorem slice_in {α : Type} {t e : TypeId} {n fuel : Nat} {cs0 : List Value} {x : DataW H × List MemPlace} (ht : P.underlying t = some (.slice e)) (hn : P.cellsOf e = n) (hn0 : 0 < n) (f : α → List CT) (hf : ∀ z, (f z).length = n) (good : α → Prop)
    (hE : ∀ m cs y, DataW.trod enc P w base spare held m e cs = some y → cs.length = n → ∃ z, cells (fun _ => True) w (f z) cs ∧ good z)
    (h : DataW.trod enc P w base spare held fuel t cs0 = some x) : ∃ (v : Value) (zs : List α), cs0 = [v] ∧ zs.length ≤ 9223372036854775807 ∧ (∀ z ∈ zs, good z) ∧ (CT.fr (sliceT n (zs.map f))).p (fun _ => True) w v := by
  rcases DataW.trod_slice ht h with ⟨h0, _⟩ | ⟨a, len, cap, elems, rest, m, _, rfl, rfl, _, hl, hm, hlen, hel, _⟩
  · exact ⟨_, [], h0, Nat.zero_le _, (fun z hz => nomatch hz), nil_is n _ w⟩
  rw [hn] at hel
  have key : ∀ k, k ≤ len → ∃ (zs : List α) (vs : List Value), zs.length = k ∧ (∀ z ∈ zs, good z) ∧ cells (fun _ => True) w (zs.map f).flatten vs ∧ vs.length = k * n ∧ ∀ i u, vs[i]? = some u → w.cell? (a.add i) = some u := by
    intro k
    induction k with
    | zero => intro _; exact ⟨[], [], rfl, (fun z hz => nomatch hz), trivial, (Nat.zero_mul n).symm, fun i u hu => by simp at hu⟩
    | succ k ih =>
      intro hk
      obtain ⟨zs, vs, e1, e2, e3, e4, e5⟩ := ih (by omega)
      have h1 := hel k (by omega)
      rw [List.getElem?_eq_getElem (show k < elems.length by omega), Option.bind_eq_some_iff] at h1
      obtain ⟨cs, h2, h3⟩ := h1
      obtain ⟨_, h4, h5⟩ := World.cells?_some h2
      obtain ⟨z, h6, h7⟩ := hE _ _ _ h3 h4
      refine ⟨zs ++ [z], vs ++ cs, by simp [e1], ?_, ?_, by rw [List.length_append, e4, h4, Nat.succ_mul], ?_⟩
      · intro y hy
        rcases List.mem_append.1 hy with hy | hy
        · exact e2 y hy
        · rw [List.mem_singleton.1 hy]; exact h7
      · rw [List.map_append, List.flatten_append]
        refine cells.append e3 ?_
        simpa using h6
      · intro i u hu
        rcases Nat.lt_or_ge i (k * n) with hi | hi
        · rw [List.getElem?_append_left (by omega)] at hu
          exact e5 i u hu
        · rw [List.getElem?_append_right (by omega), e4] at hu
          have hlt : i - k * n < n := by
            have := (List.getElem?_eq_some_iff.1 hu).1
            omega
          have := h5 (i - k * n) hlt
          rw [Addr.add_add, show k * n + (i - k * n) = i by omega] at this
          rw [this, hu]
  obtain ⟨zs, vs, e1, e2, e3, e4, e5⟩ := key len (Nat.le_refl _)
  have hmx : maxLen = 9223372036854775807 := by decide
  refine ⟨_, zs, rfl, by omega, e2, some a, cap, by rw [List.length_map, e1], by rw [List.length_map, e1]; exact hl, hm, fun y hy => by obtain ⟨z, _, rfl⟩ := List.mem_map.1 hy; exact hf z, fun hne => ?_⟩
  have hpos : 0 < len := by
    rcases Nat.eq_zero_or_pos len with h0 | h0
    · rw [h0] at e1; rw [List.length_eq_zero_iff.1 e1] at hne; exact absurd rfl hne
    · exact h0
  have hvl : 0 < vs.length := by rw [e4]; exact Nat.mul_pos hpos hn0
  have h0 := e5 0 _ (List.getElem?_eq_getElem hvl)
  obtain ⟨b, o, sp⟩ := a
  have hsp : sp = none ∧ b < w.heap.size := by
    simp only [Addr.add, if_true, World.cell?] at h0
    cases e : w.heap[b]? with
    | none => rw [e] at h0; cases h0
    | some ob =>
      rw [e] at h0
      cases ob with
      | cells c t r =>
        refine ⟨?_, heap_lt e⟩
        cases sp with
        | none => rfl
        | some q => simp at h0
      | _ => cases h0
  obtain ⟨rfl, hb⟩ := hsp
  refine ⟨b, o, rfl, trivial, hb, vs, e3, fun i u hu => ?_⟩
  have h1 := e5 i u hu
  have h3 : (⟨b, o, none⟩ : Addr).add i = ⟨b, o + i, none⟩ := by
    unfold Addr.add
    split
    · rename_i h; subst h; rfl
    · rfl
  rw [h3] at h1
  exact h1
theorem bytes_in {t e : TypeId} {fuel : Nat} {cs0 : List Value} {x : DataW H × List MemPlace} (ht : P.underlying t = some (.slice e)) (he : P.underlying e = some (.int .u8)) (hn : P.cellsOf e = 1)
    (h : DataW.trod enc P w base spare held fuel t cs0 = some x) : ∃ (v : Value) (zs : List Int), cs0 = [v] ∧ (∀ z ∈ zs, 0 ≤ z ∧ z < 256) ∧ (bytesC zs).p (fun _ => True) w v := by
  obtain ⟨v, zs, h1, _, h2, h3⟩ := slice_in ht hn (by decide) (fun z : Int => [CT.ex (Value.int .u8 z)]) (fun _ => rfl) (fun z => 0 ≤ z ∧ z < 256) (fun m cs y hy _ => by
    obtain ⟨z, rfl, _, hw⟩ := DataW.trod_int he hy
    exact ⟨z, ⟨rfl, trivial⟩, by have := bounds_u8 hw; omega⟩) h
  exact ⟨v, zs, h1, h2, h3⟩
end
end Go.Proofs.YtdhmbgogmoaofaaGreat
namespace Go.Proofs.YtdhmbgogmoaofaaGreat.linearRows
open Go.ChangeShapes Go.WideShapes Go.ChangeAt Go.RowKit
open Go.ChangeMaps (open_string shut_string)
set_option linter.unusedVariables false
theorem byte_range {a : Int} (h : (Lit.int .u8 a).wf = true) : 0 ≤ a ∧ a < 256 := by
  simp only [Lit.wf, Bool.and_eq_true, decide_eq_true_eq] at h
  exact ⟨h.1, by have := h.2; rw [show IntKind.u8.max = 255 from rfl] at this; omega⟩
theorem own : ownKnob Tryz.prog.godebug = none := by kernel_rfl
theorem laidOut : laidOutB Tryz.prog = true := by kernel_rfl
set_option maxRecDepth 100000 in
theorem lifted (os : Os) (started : os.Started) (H : Type) (enc : TypeId × Value → H) :
    ReturnsInHanded {} Tryz.checked os 5 .any (Rows.linearRowsSpec.pre6 enc Tryz.prog Tryz.f5 Rows.linearRowsRow.domain false) (Rows.linearRowsSpec.post enc Tryz.prog Tryz.f5 false true false false) := by
  refine returnsInHanded_of_change (C := Tryz.checked) own started (by kernel_rfl) Tryz.func5
    (ChangeSpec.witness6 (enc := enc) (C := Tryz.checked) false ⟨#[], #[.slice none 0 0, .int .u8 0], []⟩ 8 (by kernel_rfl) (by kernel_rfl) (by kernel_rfl) (by kernel_rfl)) ?_
  intro W base args ds gs before hval0 hW hcnd _
  have hval : ∀ (j : Nat) t v, Tryz.f5.params[j]? = some t → args[j]? = some v → Value.okWide Tryz.prog W .any base t v := hval0
  have hW' := hW
  obtain ⟨p, q, hA0, hV, rfl, hfz, hnd⟩ := hW
  have hA : DataW.TrodAll enc Tryz.prog W 0 (fun _ => true) true Tryz.f5.params.toList args.toList ds p := hA0
  rw [Tryz.params5] at hA hval
  obtain ⟨v0, vs0, d0, ds0, p0, q0, hargs0, rfl, rfl, h0, r0⟩ := trodAll_cons hA
  obtain ⟨v1, vs1, d1, ds1, p1, q1, hargs1, rfl, rfl, h1, r1⟩ := trodAll_cons r0
  obtain ⟨rfl, rfl, rfl⟩ := trodAll_nil r1
  obtain rfl : args = #[v0, v1] := by cases args; simp_all
  obtain ⟨rfl, rfl⟩ := trodVars_none hV
  obtain ⟨a0, len0, cap0, rfl⟩ := okWide_slice Tryz.underlying22 (hval 0 22 v0 rfl rfl)
  have k0 := h0
  have lt0 : ∀ x ∈ p0, x.block < W.heap.size := by obtain ⟨m, hm⟩ := k0; exact DataW.trod_lt m _ _ _ hm
  obtain ⟨f0, t0⟩ := h0
  obtain ⟨u0, z0, e0, c0, w0⟩ := bytes_in Tryz.underlying22 Tryz.underlying5 (by kernel_rfl) t0
  have e0 : Value.slice a0 len0 cap0 = u0 := by simpa [Value.cells] using e0
  subst e0
  obtain ⟨a1, rfl, rfl, rfl, w1⟩ := open_int Tryz.underlying5 (hval 1 5 v1 rfl rfl) h1
  clear hA0 hval0
  refine (((LinearRows_ok z0 a1 c0 (byte_range w1)) (fun _ => True) W [.slice a0 len0 cap0, .int .u8 a1] (fun _ _ => trivial) ⟨w0, rfl, trivial⟩)).mono fun e W' ⟨v, he, hv, bel⟩ => ?_
  have hv : v = .bool true := hv
  subst hv he
  exact ⟨_, rfl, _, _, _, [], _, [], hW', trodAll_mk1 (shut_bool Tryz.underlying4 _), (trodAll_cons_mk (Below.trod laidOut (by kernel_rfl) (of_decide_eq_true (by kernel_rfl)) k0 bel lt0) (trodAll_cons_mk (shut_int Tryz.underlying5 w1) trodAll_mk0)), rfl, bel.frame _, fun h => by cases h⟩
theorem over : Rows.linearRowsRow.holds Tryz.pinned (OpenSpec.ofChange Rows.linearRowsSpec) :=
  OpenClaim.holds_of_wide 5 Tryz.f5 rfl rfl rfl rfl rfl rfl rfl ⟨rfl, rfl, rfl, rfl, rfl⟩ rfl rfl rfl rfl rfl (by kernel_rfl) Tryz.func5 (by kernel_rfl)
    (of_decide_eq_true (by kernel_rfl)) (by unfold Func.isWrapper; first | (rw [if_pos (by decide +kernel)]; kernel_rfl) | (rw [if_neg (by decide +kernel)]; exact ⟨rfl, rfl⟩))
    (fun os started H enc _ => lifted os started H enc)
theorem proved : Rows.LinearRowsSaid := over
#print axioms proved
end Go.Proofs.YtdhmbgogmoaofaaGreat.linearRows
