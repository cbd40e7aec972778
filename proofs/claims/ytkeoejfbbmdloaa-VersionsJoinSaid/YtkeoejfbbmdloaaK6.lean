/-
  The laws of slices that are made, appended to and cut; of conversions, function values and bits; and of returning.
-/
import Derived.Test.YtkeoejfbbmdloaaK5
import Derived.Lib.SliceRun
namespace Go.Own
open Go.RowKit

variable {X : Ctx} {L : AL} {B : BL} {ops : Array Oper} {K : Act → World → Prop} {r : Pl} {k : Kd}
  {x y z : Operand} {d : Nat} {t t2 t' : TypeId} {pos : String} {af : Array Edge} {g : Option (Nat × Bool)}

/-! ### make and slice literals -/

theorem made_flat (zs : Array Value) : ∀ n : Nat, (madeCells zs (n * zs.size)).toList = (List.replicate n zs.toList).flatten := by
  intro n
  have key : ∀ n, (List.range (n * zs.size)).map (fun i => zs[i % zs.size]!) = (List.replicate n zs.toList).flatten := by
    intro n
    induction n with
    | zero => simp
    | succ n ih =>
      rw [Nat.add_mul, Nat.one_mul, List.range_add, List.map_append, ih, List.replicate_succ', List.flatten_append]
      congr 1
      simp only [List.map_map, List.flatten_cons, List.flatten_nil, List.append_nil]
      apply List.ext_getElem
      · simp
      · intro i h1 h2
        simp at h1 h2
        simp [Nat.mod_eq_of_lt h1, h1]
  rw [← key n]
  simp [madeCells, Array.toList_range]

def zinit (zv : Value) (n : Nat) : List CT := (List.replicate n (zv.cells.toList.map CT.ex)).flatten
theorem zinit_map (zv : Value) (n : Nat) : zinit zv n = (List.replicate n zv.cells.toList).flatten.map CT.ex := by
  induction n with
  | zero => rfl
  | succ n ih => simp only [zinit, List.replicate_succ, List.flatten_cons, List.map_append] at ih ⊢; rw [ih]

theorem Ops.make (i m : Nat) {el n bytes : Nat} {zv : Value} {j : Int} (hk : k.mk = true) (hg : gd ops L g = some true) (hx : ev L x = some (.ct (.ex (.int .i64 j)))) (hm : j = (m : Int)) (hT : SlcT X.P t el n bytes zv) (hb : bytes * m ≤ 140737488355328) (hmx : m ≤ 140737488355328) (hN : noN i L = true) (hB : bget B i = none) (hn : Nat.blt d X.n = true)
    (h : Ops X ops r ((d, .own i) :: L) ((i, .row el n (zinit zv m)) :: B) K) : Ops X ops (.cons ⟨some d, .makeSlice t x x, t', pos, af, g⟩ k r) L B K :=
  Ops.mkE hk hg rfl hn hN hB (fun a ρ w hI => by
    obtain ⟨nf, h1, h2, h3, h4⟩ := hT.inf
    obtain ⟨w', h5, h6, h7⟩ := run_make_full (P := X.P) w 0 t el nf zv n hT.und h1 h4 h2 .i64 .i64 m (by rw [h3]; omega) (by simp only [maxLen]; omega) (Nat.zero_le _)
    have hbel : Below w.heap.size w w' := (Below.refl _ _).grown h7 (Nat.le_refl _) (fun _ hk => by cases hk)
    refine ⟨.slice (some ⟨w.heap.size, 0, none⟩) m m, w', ?_, hbel, fun g hg => ?_, fun S' hk => ⟨m, _, h6, ?_⟩⟩
    · show (do pure (Next.value (← Instr.makeSlice t (a.eval x) (a.eval x))) : Sem Next).run X.P w = _
      rw [hI.evx hx, hm]; exact run_v h5
    · injection hg with hg; subst hg; exact Nat.le_refl _
    · rw [zinit_map, ← hT.zs, made_flat]; exact cells_ex _) h

def chunk {α : Type} (n : Nat) : Nat → List α → List (List α)
  | 0, _ => []
  | m + 1, l => l.take n :: chunk n m (l.drop n)
theorem chunk_flat {α : Type} (n : Nat) : ∀ (m : Nat) (l : List α), l.length = m * n → (chunk n m l).flatten = l ∧ (chunk n m l).length = m ∧ ∀ e ∈ chunk n m l, e.length = n
  | 0, l, h => by
    have : l = [] := List.eq_nil_of_length_eq_zero (by simpa using h)
    subst this; simp [chunk]
  | m + 1, l, h => by
    rw [Nat.add_mul] at h
    obtain ⟨h1, h2, h3⟩ := chunk_flat n m (l.drop n) (by simp; omega)
    refine ⟨by simp [chunk, h1], by simp [chunk, h2], fun e he => ?_⟩
    rcases List.mem_cons.1 he with rfl | he
    · simp; omega
    · exact h3 e he

theorem BParts.len {pl : Nat → Option (Nat × Nat)} {ps : List (Nat × Operand)} {cs cs' : List CT} (h : BParts L pl ps cs cs') : cs'.length = cs.length := by
  induction h with
  | nil => rfl
  | one hp hx ho hl _ ih => rw [ih]; simp
  | agg hp hx hl hn _ ih => rw [ih]; have := Nat.le_of_ble_eq_true hn; exact spl_length (by omega)

/-- A slice literal, frozen from the first. -/
theorem Ops.lit {m el n bytes : Nat} {zv : Value} {ps : List (Nat × Operand)} {cs : List CT} (hk : k.mk = true) (hg : gd ops L g = some true) (hT : SlcT X.P t el n bytes zv) (hb : BParts L (fun i => some (i * n, n)) ps (zinit zv m) cs) (hm : m * n ≤ 16777216) (hn : Nat.blt d X.n = true)
    (h : Ops X ops r ((d, .ct (.fr (sliceT n (chunk n m cs)))) :: L) B K) : Ops X ops (.cons ⟨some d, .buildSlice t m ps.toArray, t', pos, af, g⟩ k r) L B K :=
  Ops.mkF (s := .ct (.fr (sliceT n (chunk n m cs)))) hk hg rfl hn (fun a ρ w hI => by
    obtain ⟨nf, h1, h2, h3, h4⟩ := hT.inf
    have hlen : cs.length = m * n := by
      rw [hb.len, zinit_map]
      simp [flatten_length (k := n) (es := List.replicate m zv.cells.toList) (fun e he => by rw [List.eq_of_mem_replicate he]; simpa using hT.zs), hT.zs]
    obtain ⟨vs', h5, h6⟩ := hb.fill hI ((List.replicate m zv.cells.toList).flatten) (by rw [zinit_map]; exact cells_ex _)
    obtain ⟨c1, c2, c3⟩ := chunk_flat n m cs hlen
    have hz : (zeroValue el).run X.P w = .ok zv w := run_zeroValue (by rw [h1]; simp [h4]) w
    have hcells : (Array.range (m * n)).map (fun j => (if m * n = 0 then (#[] : Array Value) else zv.cells)[j % (if m * n = 0 then (#[] : Array Value) else zv.cells).size]!) = ((List.replicate m zv.cells.toList).flatten).toArray := by
      have hmf := made_flat zv.cells m
      rw [hT.zs] at hmf
      by_cases h0 : m * n = 0
      · have hm0 : m = 0 := by
          rcases Nat.mul_eq_zero.1 h0 with h | h
          · exact h
          · have := hT.pos; omega
        subst hm0
        simp
      · rw [if_neg h0, ← hmf, Array.toArray_toList]; rfl
    refine ⟨.slice (some ⟨w.heap.size, 0, none⟩) m m, w.alloc (.cells vs'.toArray el), ?_, below_alloc _ _, ?_⟩
    · show (do pure (Next.value (← Instr.buildSlice t m (ps.toArray.map fun (i, x) => (i, a.eval x)))) : Sem Next).run X.P w = _
      refine run_v ?_
      simp only [Instr.buildSlice, Sem.run_bind, run_underlying hT.und, Result.andThen_ok, run_sizeOf h1, h2, List.map_toArray]
      rw [if_neg (by omega)]
      have h5' : Instr.fill (fun i => some (i * n, n)) (List.replicate m zv.cells.toList).flatten.toArray (List.map (fun x => (x.fst, a.eval x.snd)) ps) = some vs'.toArray := h5
      by_cases h0 : m * n = 0
      · simp only [if_pos h0] at hcells
        rw [if_pos h0]
        simp only [Sem.run_bind, Sem.run_pure, Result.andThen_ok, hcells, h5']
        rfl
      · simp only [if_neg h0] at hcells
        rw [if_neg h0]
        simp only [Sem.run_bind, Sem.run_pure, Result.andThen_ok, hz, hcells, h5']
        rfl
    · have hl6 := h6.length
      refine ⟨some ⟨w.heap.size, 0, none⟩, m, by rw [c2], by rw [c2]; exact Nat.le_refl _, ?_, c3, fun _ => ⟨w.heap.size, 0, rfl, hI.freshS _ (Nat.le_refl _), by simp, vs', ?_, fun i u hu => ?_⟩⟩
      · have : m ≤ m * n := Nat.le_mul_of_pos_right _ hT.pos
        simp only [maxLen]; omega
      · rw [c1]; exact h6.mono (Kp.of_below (below_alloc _ _))
      · rw [Nat.zero_add]
        have hh : (w.alloc (.cells vs'.toArray el)).heap[w.heap.size]? = some (.cells vs'.toArray el (0, 0)) := heap_alloc_new w _
        simp only [World.cell?, hh]
        simp [hu]) h

/-! ### append -/

/-- A nil slice may be taken for a row of the call's own. -/
theorem Fin.nilRow {K : Act → World → Prop} (dd i : Nat) (e n : Nat) (hd : look L dd = some (.ct (.ex (.slice none 0 0)))) (hN : noN i L = true) (hB : bget B i = none) (h : Fin X ((dd, .own i) :: L) ((i, .row e n []) :: B) K) : Fin X L B K := fun a ρ w hI => by
  have h1 := hI.new (v := .slice none 0 0) (e := .row e n []) hN hB (Below.refl _ _) (fun g hg => by cases hg) (fun S' _ => ⟨0, [], World.ownsRow_nil _ _ _ _, trivial⟩)
  refine h a _ w (h1.sub fun d s hs => ?_)
  by_cases hdd : dd = d
  · subst hdd; rw [look_cons_eq] at hs; injection hs with hs; subst hs
    have : a.tmps.getD dd undef = .slice none 0 0 := hI.slot dd _ hd
    show a.tmps.getD dd undef = upd ρ i _ i
    rw [upd_eq, this]
  · rw [look_cons_ne _ _ hdd] at hs; exact h1.slot d s hs

theorem run_append_blk {P : Program} (w : World) (t ty e : TypeId) (i : TypeInfo) (zv : Value) (size bytes : Nat) (ht : P.underlying t = some (.slice e)) (hi : P.info? e = some i) (hz : i.zero = some zv)
    (hsize : i.size = size) (hby : i.bytes = bytes) (hzs : zv.cells.size = size) (hsz : 0 < size) (v : Value) (n : Nat) (xs : List Value) (hown : w.ownsRow 0 e size v n xs)
    (a : Addr) (m c : Nat) (news : List Value) (hl : news.length = m * size) (hnews : ∀ j u, news[j]? = some u → w.cell? (a.add j) = some u) (h1 : ∀ u ∈ news, u.oneCell' = true) (h63 : n + m ≤ maxLen) (hbytes : (n + m) * bytes ≤ 140737488355328) :
    ∃ v' w', (Builtin.append_ #[t, t] ty #[v, .slice (some a) m c]).run P w = .ok v' w' ∧ w'.ownsRow 0 e size v' (n + m) (xs ++ news) ∧ w.grownBy w' v.ownBlock ∧ (blk v' = blk v ∨ ∀ g, blk v' = some g → w.heap.size ≤ g) := by
  obtain ⟨v', w', hr, how, hgr, hnil⟩ := run_append_own (P := P) w 0 t ty e i zv size bytes ht hi hz hsize hby hzs hsz v n xs hown a m c news hl hnews h1 h63 hbytes (Nat.zero_le _)
  refine ⟨v', w', hr, how, hgr, ?_⟩
  have hsmall : n + m ≤ 9223372036854775807 := by simp only [maxLen] at h63; omega
  subst hsize; subst hby
  rcases hown.2 with ⟨rfl, rfl⟩ | ⟨gb, cap, cur, rfl, _, hg, hnc, hcm, hcs, htake⟩
  · by_cases hm : m = 0
    · left; rw [hnil.2 ⟨rfl, hm⟩]
    · right
      have hr2 := run_append_nil (P := P) w t ty e i zv ht hi hz a m c news hl hnews (by omega) (by omega) (by have hb := hbytes; simp only [Nat.zero_add] at hb; omega)
      rw [hr2] at hr; injection hr with e1 e2
      intro q hq; rw [← e1] at hq; injection hq with hq; subst hq; exact Nat.le_refl _
  · by_cases hroom : n + m ≤ cap
    · left
      have hfit : n * i.size + news.length ≤ cur.size := by rw [hl, hcs, ← Nat.add_mul]; exact Nat.mul_le_mul_right _ hroom
      have hr2 := run_append_room (P := P) w t ty e i ht hi gb n cap cur hg a m c news hl hnews h1 hroom hfit
      rw [hr2] at hr; injection hr with e1 e2
      rw [← e1]; rfl
    · right
      have holds : ∀ j u, xs[j]? = some u → w.cell? ((⟨gb, 0, none⟩ : Addr).add j) = some u := hown.cells (g := gb) rfl
      have hr2 := run_append_grow (P := P) w t ty e i zv ht hi hz ⟨gb, 0, none⟩ n cap xs hown.1 holds a m c news hl hnews (by omega) (by omega) (growslice_fits (by omega) hbytes)
      rw [hr2] at hr; injection hr with e1 e2
      intro q hq; rw [← e1] at hq; injection hq with hq; subst hq; exact Nat.le_refl _

/-- append onto a row of the call's own. -/
theorem Ops.append {i el n bytes : Nat} {zv : Value} {cs : List CT} {es : List (List CT)} (m : Nat) (cs' : List CT) (hg : gd ops L g = some true) (hx : ev L x = some (.own i)) (hi : bget B i = some (.row el n cs)) (hy : ev L y = some (.ct (.fr (sliceT n es)))) (hT : SlcT X.P t el n bytes zv)
    (hl : cs.length = m * n) (ho : ones es.flatten = true) (hb : (m + es.length) * bytes ≤ 140737488355328) (hmx : m + es.length ≤ 140737488355328) (hcs : cs' = cs ++ es.flatten) (hn : Nat.blt d X.n = true)
    (h : Ops X ops r ((d, .own i) :: killL i L) (bset B i (.row el n cs')) K) : Ops X ops (.cons ⟨some d, .call { callee := .builtin .append, args := #[x, y], argTypes := #[t, t] }, t', pos, af, g⟩ .any r) L B K := fun a ρ w hI => by
  show wpO _ _ _ _ _ _
  unfold wpO
  rw [if_pos (gd_spec (o := ⟨some d, _, t', pos, af, g⟩) hI hg)]
  have hx1 : a.eval x = ρ i := hI.ev hx
  obtain ⟨ad, c, hy1, hy2, hy3, hy4, hy5⟩ := hI.ev hy
  obtain ⟨nf, h1, h2, h3, h4⟩ := hT.inf
  obtain ⟨m', vs, how, hc⟩ := (hI.ent i _ hi).1
  have hlv := hc.length
  rw [how.1, hl] at hlv
  have hmm : m' = m := Nat.eq_of_mul_eq_mul_right hT.pos hlv
  subst hmm
  -- what the law gives
  have key : ∃ v' w', (Builtin.append_ #[t, t] t' #[ρ i, a.eval y]).run X.P w = .ok v' w' ∧ (∃ news, cells (Sof X B ρ) w es.flatten news ∧ w'.ownsRow 0 el n v' (m' + es.length) (vs ++ news)) ∧ w.grownBy w' (ρ i).ownBlock ∧ (blk v' = blk (ρ i) ∨ ∀ g, blk v' = some g → w.heap.size ≤ g) := by
    rw [hy1]
    have hmax : m' + es.length ≤ maxLen := by simp only [maxLen]; omega
    by_cases he : es = []
    · subst he
      cases ad with
      | none =>
        refine ⟨ρ i, w, ?_, ⟨[], trivial, by simpa using how⟩, ⟨rfl, rfl, rfl, Nat.le_refl _, fun _ _ _ => rfl⟩, .inl rfl⟩
        rcases how.2 with ⟨e1, e2⟩ | ⟨gb, cap, cur, e1, _, _, hnc, _⟩
        · rw [e1]; simp [Builtin.append_, run_underlying hT.und, sizeOf, typeInfo, h1, Builtin.lenOf, Builtin.firstCells]
        · rw [e1]; simp [Builtin.append_, run_underlying hT.und, sizeOf, typeInfo, h1, Builtin.lenOf, Builtin.firstCells, hnc, storeCells]
      | some ad =>
        obtain ⟨v', w', r1, r2, r3, r4⟩ := run_append_blk (P := X.P) w t t' el nf zv n bytes hT.und h1 h4 h2 h3 hT.zs hT.pos (ρ i) m' vs how ad 0 c [] (by simp) (by simp) (by simp) (by simpa using hmax) (by simpa using hb)
        exact ⟨v', w', r1, ⟨[], trivial, r2⟩, r3, r4⟩
    · obtain ⟨b, o, rfl, hS, hlt, news, hn1, hn2⟩ := hy5 he
      obtain ⟨v', w', r1, r2, r3, r4⟩ := run_append_blk (P := X.P) w t t' el nf zv n bytes hT.und h1 h4 h2 h3 hT.zs hT.pos (ρ i) m' vs how ⟨b, o, none⟩ es.length c news (by rw [hn1.length, flatten_length hy4]) (fun j u hu => by rw [add_cell]; exact hn2 j u hu) (ones_cells ho hn1) hmax hb
      exact ⟨v', w', r1, ⟨news, hn1, r2⟩, r3, r4⟩
  obtain ⟨v', w', r1, ⟨news, r2, r3⟩, r4, r5⟩ := key
  have hrun : (execOp a.eval ⟨some d, .call { callee := .builtin .append, args := #[x, y], argTypes := #[t, t] }, t', pos, af, g⟩).run X.P w = .ok (.value v') w' :=
    run_builtin (args := [x, y]) (fun _ => by
      simp only [List.map_cons, List.map_nil, hx1]
      exact run_v r1)
  unfold Oper.wp
  rw [hrun]
  show wpX _ _ _ _ (a.put (some d) v') w'
  have hob : (ρ i).ownBlock = blk (ρ i) := (blk_own how).symm
  have hW := Is.write (v := v') (e' := .row el n cs') (hI.killL i) hi r4.os r4.tape r4.output r4.size
    (fun q hq hne => r4.block q hq (fun e => hne (by rw [← hob, ← e]))) r5 (fun S' hk => ⟨m' + es.length, vs ++ news, r3, by rw [hcs]; exact (hc.append r2).mono hk⟩) (.inr (noN_killL i L)) (.inr rfl)
  exact h _ _ w' ((hW.bext (bget_bset hi)).put (s := .own i) (lt_of_blt hn) (by show v' = upd ρ i v' i; rw [upd_eq]))

/-! ### Cuts of frozen slices -/

theorem elem_eq {P : Program} {t el : TypeId} (h : P.underlying t = some (.slice el)) : P.elem t = el := by simp [Program.elem, h]

theorem cut_memAt {S : BSet} {w : World} {b o n : Nat} {es : List (List CT)} (hm : memAt S w b o es.flatten) (hk : ∀ e ∈ es, e.length = n) (lo hi : Nat) : memAt S w b (o + lo * n) ((es.take hi).drop lo).flatten := by
  have e1 : ((es.take hi).drop lo).flatten = (es.flatten.take (hi * n)).drop (lo * n) := by
    have key : ∀ (es : List (List CT)), (∀ e ∈ es, e.length = n) → ∀ q, (es.take q).flatten = es.flatten.take (q * n) := by
      intro es hk
      induction es with
      | nil => intro q; simp
      | cons e es ih =>
        intro q
        cases q with
        | zero => simp
        | succ q =>
          have he := hk e (List.mem_cons_self ..)
          rw [List.take_succ_cons, List.flatten_cons, List.flatten_cons, ih (fun e h => hk e (List.mem_cons_of_mem _ h)) q, List.take_append, List.take_of_length_le (l := e) (by rw [he, Nat.add_mul]; omega), he]
          congr 2; rw [Nat.add_mul]; omega
    have keyd : ∀ (es : List (List CT)), (∀ e ∈ es, e.length = n) → ∀ q, (es.drop q).flatten = es.flatten.drop (q * n) := by
      intro es hk
      induction es with
      | nil => intro q; simp
      | cons e es ih =>
        intro q
        cases q with
        | zero => simp
        | succ q =>
          have he := hk e (List.mem_cons_self ..)
          rw [List.drop_succ_cons, List.flatten_cons, ih (fun e h => hk e (List.mem_cons_of_mem _ h)) q, List.drop_append, List.drop_of_length_le (l := e) (by rw [he, Nat.add_mul]; omega), he, List.nil_append]
          congr 1; rw [Nat.add_mul]; omega
    rw [keyd _ (fun e h => hk e (List.mem_of_mem_take h)), key _ hk]
  rw [e1]
  exact (hm.take _).drop _

theorem Ops.cutG {el n bytes lo hi : Nat} {zv : Value} {es : List (List CT)} {ol oh : Option Operand} (hg : gd ops L g = some true) (hx : ev L x = some (.ct (.fr (sliceT n es)))) (hT : SlcT X.P t el n bytes zv) (h1 : lo ≤ hi) (h2 : hi ≤ es.length)
    (hr : ∀ a ρ w, Is X L B a ρ w → ∀ (ad : Option Addr) (c : Nat) (w' : World), es.length ≤ c → (Instr.slice t (.slice ad es.length c) (ol.map a.eval) (oh.map a.eval) none).run X.P w' = .ok (.slice (if c = lo then ad else ad.map (·.add (lo * n))) (hi - lo) (c - lo)) w') (hn : Nat.blt d X.n = true)
    (h : Ops X ops r ((d, .ct (.fr (sliceT n ((es.take hi).drop lo)))) :: L) B K) : Ops X ops (.cons ⟨some d, .slice t x ol oh none, t', pos, af, g⟩ k r) L B K :=
  Ops.val (s := .ct (.fr (sliceT n ((es.take hi).drop lo)))) hg rfl hn (fun a ρ w hI => by
    obtain ⟨ad, c, h3, h4, h5, h6, h7⟩ := hI.ev hx
    have hlen : ((es.take hi).drop lo).length = hi - lo := by simp; omega
    refine ⟨.slice (if c = lo then ad else ad.map (·.add (lo * n))) (hi - lo) (c - lo), fun w' _ => ?_, _, c - lo, by rw [hlen], by rw [hlen]; omega, by omega, fun e he => h6 e (List.mem_of_mem_take (List.mem_of_mem_drop he)), fun hne => ?_⟩
    · show (do pure (Next.value (← Instr.sliceAt t (a.eval x) (ol.map a.eval) (oh.map a.eval) (Option.map a.eval none))) : Sem Next).run X.P w' = _
      rw [h3]
      refine run_v ?_
      have := hr a ρ w hI ad c w' h4
      simp only [Instr.sliceAt, Sem.run_bind, run_underlying hT.und, Result.andThen_ok, Option.map_none]
      exact this
    · have hpos : 0 < hi - lo := by rw [← hlen]; exact List.length_pos_iff.2 hne
      obtain ⟨b, o, rfl, hm⟩ := h7 (fun e => by subst e; simp at h2; omega)
      rw [if_neg (by omega)]
      exact ⟨b, o + lo * n, by simp [add_cell], cut_memAt hm h6 lo hi⟩) h

theorem Ops.cutHi {el n bytes : Nat} {zv : Value} {es : List (List CT)} {kk : IntKind} {j : Int} (hg : gd ops L g = some true) (hx : ev L x = some (.ct (.fr (sliceT n es)))) (hy : ev L y = some (.ct (.ex (.int kk j)))) (hT : SlcT X.P t el n bytes zv) (h0 : 0 ≤ j) (h2 : j.toNat ≤ es.length) (hn : Nat.blt d X.n = true)
    (h : Ops X ops r ((d, .ct (.fr (sliceT n (es.take j.toNat)))) :: L) B K) : Ops X ops (.cons ⟨some d, .slice t x none (some y) none, t', pos, af, g⟩ k r) L B K :=
  Ops.cutG (lo := 0) (hi := j.toNat) (ol := none) (oh := some y) hg hx hT (Nat.zero_le _) h2 (fun a ρ w hI ad c w' hc => by
    obtain ⟨nf, i1, i2, _⟩ := hT.inf
    have he := elem_eq hT.und
    have hu : X.P.underlying t = some (.slice (X.P.elem t)) := by rw [he]; exact hT.und
    simp only [Option.map_none, Option.map_some, hI.evx hy]
    rw [run_slice_h (P := X.P) (w := w') t ad es.length c hu kk j h0 (by omega)]
    rw [he, run_sizeOf i1, i2]; simp [sliced]) hn (by simpa using h)
theorem Ops.cutLo {el n bytes : Nat} {zv : Value} {es : List (List CT)} {kk : IntKind} {j : Int} (hg : gd ops L g = some true) (hx : ev L x = some (.ct (.fr (sliceT n es)))) (hy : ev L y = some (.ct (.ex (.int kk j)))) (hT : SlcT X.P t el n bytes zv) (h0 : 0 ≤ j) (h2 : j.toNat ≤ es.length) (hn : Nat.blt d X.n = true)
    (h : Ops X ops r ((d, .ct (.fr (sliceT n (es.drop j.toNat)))) :: L) B K) : Ops X ops (.cons ⟨some d, .slice t x (some y) none none, t', pos, af, g⟩ k r) L B K :=
  Ops.cutG (lo := j.toNat) (hi := es.length) (ol := some y) (oh := none) hg hx hT h2 (Nat.le_refl _) (fun a ρ w hI ad c w' hc => by
    obtain ⟨nf, i1, i2, _⟩ := hT.inf
    have he := elem_eq hT.und
    have hu : X.P.underlying t = some (.slice (X.P.elem t)) := by rw [he]; exact hT.und
    simp only [Option.map_none, Option.map_some, hI.evx hy]
    rw [run_slice_l (P := X.P) (w := w') t ad es.length c hu kk j h0 (by omega)]
    rw [he, run_sizeOf i1, i2]; simp [sliced]) hn (by simpa using h)

/-! ### Other operations -/

theorem Ops.nilCheckO {i tt : Nat} {cs : List CT} (hg : gd ops L g = some true) (hx : ev L x = some (.own i)) (hi : bget B i = some (.box tt cs)) (hn : Nat.blt d X.n = true) (h : Ops X ops r ((d, .own i) :: L) B K) : Ops X ops (.cons ⟨some d, .nilCheck x, t', pos, af, g⟩ k r) L B K :=
  Ops.val (s := .own i) hg rfl hn (fun a ρ w hI => by
    have h1 : a.eval x = ρ i := hI.ev hx
    obtain ⟨gb, vs, h2, _⟩ := (hI.ent i _ hi).1
    refine ⟨ρ i, fun w' _ => ?_, rfl⟩
    simp only [execOp, h1, h2]; rfl) h

theorem Ops.makeFunc {f : FuncId} {caps : List Operand} {cs : List CT} (hg : gd ops L g = some true) (hx : evs L caps = some cs) (hn : Nat.blt d X.n = true) (h : Ops X ops r ((d, .ct (.fr (closT f cs))) :: L) B K) : Ops X ops (.cons ⟨some d, .makeFunc (.func f) #[] caps.toArray, t', pos, af, g⟩ k r) L B K :=
  Ops.val (s := .ct (.fr (closT f cs))) hg rfl hn (fun a ρ w hI => by
    refine ⟨.func (.func f) #[] (caps.map a.eval).toArray, fun w' _ => ?_, _, rfl, hI.evs hx⟩
    show (do pure (Next.value (← Instr.makeFunc (.func f) (#[].map a.eval) (caps.toArray.map a.eval))) : Sem Next).run X.P w' = _
    refine run_v ?_; simp [Instr.makeFunc]) h

theorem Ops.conv {k1 k2 : IntKind} {p q : Int} {D : TypeDesc} {src dst : TypeId} (hg : gd ops L g = some true) (hx : ev L x = some (.ct (.ex (.int k1 p)))) (h1 : X.P.underlying src = some D) (h2 : X.P.underlying dst = some (.int k2)) (hq : k2.wrap p = q) (hn : Nat.blt d X.n = true)
    (h : Ops X ops r ((d, .ct (.ex (.int k2 q))) :: L) B K) : Ops X ops (.cons ⟨some d, .convert src dst x, t', pos, af, g⟩ k r) L B K :=
  Ops.val (s := .ct (.ex (.int k2 q))) hg rfl hn (fun a ρ w hI => ⟨.int k2 q, fun w' _ => by
    show (do pure (Next.value (← convert src dst (a.eval x))) : Sem Next).run X.P w' = _
    rw [hI.evx hx]
    refine run_v ?_
    simp [convert, run_underlying h1, run_underlying h2, Conv.intToInt, hq], rfl⟩) h

/-- Is a frozen slice nil? If so it is empty; more is not known. -/
theorem Ops.eqNil {el n : Nat} {es : List (List CT)} (hg : gd ops L g = some true) (hx : ev L x = some (.ct (.fr (sliceT n es)))) (hu : X.P.underlying t = some (.slice el)) (hn : Nat.blt d X.n = true) (h : ∀ b : Bool, (b = true → es = []) → Ops X ops r ((d, .ct (.ex (.bool b))) :: L) B K) :
    Ops X ops (.cons ⟨some d, .binOp .eql t x (.const (.slice none 0 0)) t2, t', pos, af, g⟩ k r) L B K := fun a ρ w hI => by
  obtain ⟨ad, c, h1, h2, h3, h4, h5⟩ := hI.ev hx
  have hb : (ad.isNone = true → es = []) := fun hn => by
    by_cases he : es = []
    · exact he
    · obtain ⟨b, o, rfl, _⟩ := h5 he; cases hn
  refine wpX_pure k (v := .bool ad.isNone) (.inl ⟨gd_spec (o := ⟨some d, _, t', pos, af, g⟩) hI hg, fun w' => ?_⟩) (h _ hb _ ρ w (hI.put (lt_of_blt hn) rfl))
  show (do pure (Next.value (← (do eqGuard .eql t x (.const (.slice none 0 0)) (a.eval x) (.slice none 0 0); binOp .eql t (a.eval x) (.slice none 0 0) : Sem Value))) : Sem Next).run X.P w' = _
  rw [h1]
  refine run_v ?_
  have hgd : (eqGuard .eql t x (.const (.slice none 0 0)) (.slice ad es.length c) (.slice none 0 0)).run X.P w' = .ok () w' := rfl
  simp only [Sem.run_bind, hgd, Result.andThen_ok]
  exact Lib.run_eql_slice_nil w' t el ad es.length c 0 0 hu

end Go.Own
