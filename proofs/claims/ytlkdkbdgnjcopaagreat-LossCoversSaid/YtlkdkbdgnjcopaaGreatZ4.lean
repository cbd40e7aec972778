/- The proof that LossCovers holds for every input, without conditions: part 4 of 5. -/
import Derived.Test.YtlkdkbdgnjcopaaGreatZ3
namespace Go.Proofs.YtlkdkbdgnjcopaaGreat
open Go.Own Go.Limbs
def chkF (l : List Rs) : Int := if (l.any fun r => !okR r) = true then 1 else if 512 < ((sd cmpR (l.filter okR)).length : Int) then 5 else if consB l = true then 0 else 30
def crsF (l : List Rs) (w : Wr) (b : Bool) : List Rs := (sd cmpR (l.filter okR)).filter fun r => decide (w ∈ wayF l r) && (r.an == b)
structure Cn where
  wr : Wr
  se : Int
  lo : Int
  hi : Int
deriving DecidableEq
def cn0 : Cn := ⟨(0, 0), 0, 0, 0⟩
def cntF (l : List Rs) (w : Wr) (b : Int) : Cn × Int :=
  if b < 0 ∨ 1048576 < b then (cn0, 1)
  else if chkF l ≠ 0 then (cn0, chkF l)
  else if (crsF l w true).length + (crsF l w false).length = 0 then (cn0, 8)
  else (⟨w, ((crsF l w true).length : Int) + (crsF l w false).length, max 0 ((crsF l w false).length - b), (crsF l w false).length⟩, 0)
def adN (t : Int) : Fin 4294967296 := ⟨t.toNat % 4294967296, Nat.mod_lt _ (by decide)⟩
theorem adN_val {t : Int} (h : 0 ≤ t) (h2 : t < 4294967296) : ((adN t).val : Int) = t := by unfold adN; simp only; omega
def chF : Nat → Int → List (Fin 4294967296)
  | 0, _ => []
  | c + 1, t => adN t :: chF c (t + 1)
structure Chain (n : Nat) (t0 : Tk) (l : List Rs) : Prop where
  up : Up cmpR l
  ok : ∀ r ∈ l, okR r = true ∧ r.db = false ∧ r.fl = 0 ∧ trOf r = t0 ∧ 1 ≤ r.tt ∧ r.tt ≤ n ∧ (r.an = true → r.ki = 1 ∧ r.fr = adN r.tt)
  all : ∀ t : Int, 1 ≤ t → t ≤ n → ∃ r ∈ l, r.an = true ∧ r.tt = t
variable {n : Nat} {t0 : Tk} {l : List Rs}
theorem endF_zero : ∀ (l : List Rs) (e : Int), (∀ r ∈ l, fiR r = false) → l.foldl endS e = e
  | [], _, _ => rfl
  | r :: l, e, h => by
    have h1 : endS e r = e := by unfold endS; rw [if_neg (by rw [h r (List.mem_cons_self ..)]; simp)]
    rw [List.foldl_cons, h1]
    exact endF_zero l e fun x hx => h x (List.mem_cons_of_mem _ hx)
abbrev stV (m : AdM × StM) (t : Int) : Int := (look1 m.2 (0, t)).getD 0
def invM (m : AdM × StM) : Prop := ∀ t : Int, stV m t ≤ 1 ∨ (stV m t = 2 ∧ look1 m.1 (0, t) = some (adN t))
theorem look_chain : ∀ (q : List Rs) (m : AdM × StM), (∀ r ∈ q, usR r = true ∧ r.fl = 0 ∧ (r.an = true → r.fr = adN r.tt)) → invM m →
    invM (q.foldl (lookS 0) m) ∧ ∀ t, (stV m t = 2 ∨ ∃ r ∈ q, r.an = true ∧ r.tt = t) → stV (q.foldl (lookS 0) m) t = 2
  | [], m, _, hm => ⟨hm, fun t h => h.elim id fun ⟨_, h, _⟩ => by cases h⟩
  | r :: q, m, hq, hm => by
    obtain ⟨h1, h2, h3⟩ := hq r (List.mem_cons_self ..)
    have key : invM (lookS 0 m r) ∧ ∀ t, (stV m t = 2 ∨ (r.an = true ∧ r.tt = t)) → stV (lookS 0 m r) t = 2 := by
      unfold lookS
      rw [if_neg (by rw [h1]; simp), h2]
      cases ha : r.an with
      | false =>
        rw [if_pos rfl]
        refine ⟨fun t => ?_, fun t h => ?_⟩
        · simp only [stV, ZY]
          have := hm t
          by_cases e : t = r.tt
          · subst e
            rw [if_pos rfl]
            simp only [Option.getD_some]
            unfold stV at this
            rcases this with h | ⟨h, h'⟩
            · left; omega
            · right; exact ⟨by omega, h'⟩
          · rw [if_neg (by intro h; injection h with _ h; exact e h)]
            exact this
        · simp only [stV, ZY]
          rcases h with h | ⟨h, _⟩
          · by_cases e : t = r.tt
            · subst e
              rw [if_pos rfl]
              simp only [Option.getD_some]
              unfold stV at h
              omega
            · rw [if_neg (by intro h; injection h with _ h; exact e h)]; exact h
          · cases h
      | true =>
        rw [if_neg (by decide)]
        have h4 := h3 ha
        have hr := hm r.tt
        unfold stV at hr
        by_cases hs : (look1 m.2 (0, r.tt)).getD 0 ≤ 1
        · rw [if_pos hs]
          refine ⟨fun t => ?_, fun t h => ?_⟩
          · simp only [stV, ZY]
            by_cases e : t = r.tt
            · subst e
              rw [if_pos rfl, if_pos rfl, h4]
              right; exact ⟨rfl, rfl⟩
            · rw [if_neg (by intro h; injection h with _ h; exact e h), if_neg (by intro h; injection h with _ h; exact e h)]
              exact hm t
          · simp only [stV, ZY]
            by_cases e : t = r.tt
            · subst e; rw [if_pos rfl]; rfl
            · rw [if_neg (by intro h; injection h with _ h; exact e h)]
              rcases h with h | ⟨_, h⟩
              · exact h
              · exact absurd h.symm e
        · rw [if_neg hs]
          rcases hr with hr | ⟨hr, hr'⟩
          · exact absurd hr hs
          · rw [if_neg (by rw [hr', h4]; simp)]
            refine ⟨hm, fun t h => ?_⟩
            rcases h with h | ⟨_, h⟩
            · exact h
            · subst h; exact hr
    obtain ⟨k1, k2⟩ := key
    obtain ⟨i1, i2⟩ := look_chain q (lookS 0 m r) (fun x hx => hq x (List.mem_cons_of_mem _ hx)) k1
    refine ⟨i1, fun t h => i2 t ?_⟩
    rcases h with h | ⟨x, hx, h⟩
    · exact .inl (k2 t (.inl h))
    · rcases List.mem_cons.1 hx with rfl | hx
      · exact .inl (k2 t (.inr h))
      · exact .inr ⟨x, hx, h⟩
theorem Chain.us (h : Chain n t0 l) {r : Rs} (hr : r ∈ l) : usR r = true := by
  obtain ⟨h1, h2, _⟩ := h.ok r hr
  unfold usR; rw [h1, h2]; rfl
theorem Chain.fi (h : Chain n t0 l) : ∀ r ∈ l, fiR r = false := fun r hr => by
  obtain ⟨_, _, _, _, _, _, h3⟩ := h.ok r hr
  unfold fiR
  cases ha : r.an with
  | false => rfl
  | true => rw [(h3 ha).1]; rfl
theorem Chain.look (h : Chain n t0 l) : lookG l = l.foldl (lookS 0) ([], []) := by
  have h1 : endF l = 0 := endF_zero l 0 h.fi
  unfold lookG; rw [h1]
theorem pathG_chain {m : AdM × StM} (h1 : ∀ t : Int, 1 ≤ t → t ≤ n → stV m t = 2 ∧ look1 m.1 (0, t) = some (adN t)) (h2 : hasS m.2 0 (n + 1) = false) :
    ∀ (c k : Nat) (t : Int), 1 ≤ t → t + c = n + 1 → c < k → pathG m 0 k t = chF c t
  | 0, k + 1, t, _, he, _ => by
    unfold pathG
    have : t = (n : Int) + 1 := by omega
    rw [this, h2]; rfl
  | c + 1, k + 1, t, ht, he, hk => by
    obtain ⟨a1, a2⟩ := h1 t ht (by omega)
    have : hasS m.2 0 t = true := by unfold hasS; unfold stV at a1; rw [a1]; rfl
    unfold pathG chF
    rw [if_pos this, a2, pathG_chain h1 h2 c k (t + 1) (by omega) (by omega) (by omega)]
    rfl
  | _, 0, _, _, _, h => by omega
theorem Chain.path (h : Chain n t0 l) (hn : n < 256) : pathF l 0 = chF n 1 := by
  unfold pathF
  obtain ⟨i1, i2⟩ := look_chain l ([], []) (fun r hr => ⟨h.us hr, (h.ok r hr).2.2.1, fun ha => ((h.ok r hr).2.2.2.2.2.2 ha).2⟩) (fun t => .inl (by show (0 : Int) ≤ 1; decide))
  rw [← h.look] at i1 i2
  refine pathG_chain (n := n) (fun t h1 h2 => ?_) ?_ n 256 1 (by decide) (by omega) hn
  · have e := i2 t (.inr (h.all t h1 h2))
    refine ⟨e, ?_⟩
    rcases i1 t with h3 | h3
    · rw [e] at h3; exact absurd h3 (by decide)
    · exact h3.2
  · cases hb : hasS (lookG l).2 0 (n + 1) with
    | false => rfl
    | true =>
      unfold hasS at hb
      cases e : look1 (lookG l).2 (0, (n : Int) + 1) with
      | none => rw [e] at hb; simp at hb
      | some v =>
        obtain ⟨_, r, hr, _, hs⟩ := lookG_keys l _ _ e
        injection hs with _ hs
        have := (h.ok r hr).2.2.2.2.2.1
        omega
theorem Chain.sd (h : Chain n t0 l) : sd cmpR (l.filter okR) = l := by
  have : l.filter okR = l := List.filter_eq_self.2 fun r hr => (h.ok r hr).1
  rw [this]; exact sd_eq ordR h.up
def wk (k : Int) : Wr := (adN (k - 1), adN k)
theorem Chain.way (h : Chain n t0 l) (hn : n ≤ 3) {r : Rs} (hr : r ∈ l) {k : Int} (h1 : 1 ≤ k) (h2 : k ≤ n) : decide (wk k ∈ wayF l r) = decide (k ≤ r.tt) := by
  obtain ⟨_, _, hf, ht, ha, hb, _⟩ := h.ok r hr
  have e : ((l.filter fun x => decide (trOf x = trOf r))) = l := List.filter_eq_self.2 fun x hx => by rw [(h.ok x hx).2.2.2.1, ht]; simp
  have hl : (chF n 1).length = n := by
    have : ∀ c t, (chF c t).length = c := fun c => by
      induction c with
      | zero => intro _; rfl
      | succ c ih => intro t; show (chF c (t + 1)).length + 1 = _; rw [ih]
    exact this n 1
  unfold wayF
  rw [if_neg (by rw [h.us hr]; simp), h.sd, e, hf, h.path (by omega)]
  simp only [hl]
  rw [if_pos hb]
  generalize r.tt = t at ha hb ⊢
  have hn' : n = 1 ∨ n = 2 ∨ n = 3 := by omega
  rcases hn' with rfl | rfl | rfl
  · have : t = 1 := by omega
    have : k = 1 := by omega
    subst_vars; decide
  · have ht : t = 1 ∨ t = 2 := by omega
    have hk : k = 1 ∨ k = 2 := by omega
    rcases ht with rfl | rfl <;> rcases hk with rfl | rfl <;> decide
  · have ht : t = 1 ∨ t = 2 ∨ t = 3 := by omega
    have hk : k = 1 ∨ k = 2 ∨ k = 3 := by omega
    rcases ht with rfl | rfl | rfl <;> rcases hk with rfl | rfl | rfl <;> decide
theorem clash_chain : ∀ (q : List Rs) (m : SeenM), (∀ r ∈ q, r.an = true → r.fr = adN r.tt) → (∀ s v, look1 m s = some v → v = adN s.2.2) → clashG m q = q.length
  | [], _, _, _ => rfl
  | r :: q, m, hq, hm => by
    have ih := fun m' => clash_chain q m' fun x hx => hq x (List.mem_cons_of_mem _ hx)
    unfold clashG
    rw [List.length_cons]
    by_cases hp : plB r = false
    · rw [if_pos hp, ih m hm]
    · rw [if_neg hp]
      have ha : r.an = true := by
        unfold plB at hp
        cases h : r.an with
        | true => rfl
        | false => rw [h] at hp; exact absurd rfl hp
      have hr := hq r (List.mem_cons_self ..) ha
      rw [if_neg, ih]
      · intro s v hs
        rw [ZY] at hs
        split at hs
        · rename_i e; subst e; injection hs with hs; rw [← hs]; exact hr
        · exact hm s v hs
      · rintro ⟨h1, h2⟩
        obtain ⟨v, hv⟩ := Option.isSome_iff_exists.1 h1
        rw [hv] at h2
        exact h2 (by rw [hr]; exact hm _ v hv)
theorem Chain.cons (h : Chain n t0 l) : consB l = true := by
  unfold consB witG
  rw [h.sd, clash_chain l [] (fun r hr ha => ((h.ok r hr).2.2.2.2.2.2 ha).2) (fun _ _ h => by cases h)]
  simp
theorem Chain.chk (h : Chain n t0 l) (hl : l.length ≤ 512) : chkF l = 0 := by
  unfold chkF
  rw [if_neg, h.sd, if_neg (by omega), if_pos h.cons]
  intro h'
  obtain ⟨r, hr, h1⟩ := List.any_eq_true.1 h'
  rw [(h.ok r hr).1] at h1; cases h1
theorem Chain.crs (h : Chain n t0 l) (hn : n ≤ 3) {k : Int} (h1 : 1 ≤ k) (h2 : k ≤ n) (b : Bool) : (crsF l (wk k) b).length = l.countP fun r => decide (k ≤ r.tt) && (r.an == b) := by
  unfold crsF
  rw [h.sd, ← List.countP_eq_length_filter]
  exact List.countP_congr fun r hr => by rw [h.way hn hr h1 h2]
theorem Chain.cnt (h : Chain n t0 l) (hn : n ≤ 3) (hl : l.length ≤ 512) {k b : Int} (h1 : 1 ≤ k) (h2 : k ≤ n) (hb : 0 ≤ b) (hb2 : b ≤ 1048576) :
    cntF l (wk k) b = (⟨wk k, ((l.countP fun r => decide (k ≤ r.tt) && (r.an == true) : Nat) : Int) + (l.countP fun r => decide (k ≤ r.tt) && (r.an == false) : Nat), max 0 ((l.countP fun r => decide (k ≤ r.tt) && (r.an == false) : Nat) - b), (l.countP fun r => decide (k ≤ r.tt) && (r.an == false) : Nat)⟩, 0) := by
  have hs := h.crs hn h1 h2 true
  have hf := h.crs hn h1 h2 false
  have hp : 0 < l.countP fun r => decide (k ≤ r.tt) && (r.an == true) := by
    obtain ⟨r, hr, ha, ht⟩ := h.all k h1 h2
    exact List.countP_pos_iff.2 ⟨r, hr, by rw [ha, ht]; simp⟩
  unfold cntF
  rw [if_neg (by omega), if_neg (by rw [h.chk hl]; simp), if_neg (by omega), hs, hf]
def mkX (o k t w : Int) : Rs := ⟨0, 0, k, 10 * k, 9, 17, 0, t, decide (w = 0), false, 10 * k + o, if w = 0 then adN t else 0, if w = 0 then 1 else 0, 0, 0, 0, 0⟩
def xF (o : Int) : Int → List (Int × Int) → List Rs
  | _, [] => []
  | i, p :: d => mkX o i p.1 p.2 :: xF o (i + 1) d
theorem xF_len (o : Int) : ∀ (d : List (Int × Int)) (i : Int), (xF o i d).length = d.length
  | [], _ => rfl
  | _ :: d, i => by show (xF o (i + 1) d).length + 1 = _; rw [xF_len o d]; rfl
theorem xF_snoc (o : Int) (p : Int × Int) : ∀ (d : List (Int × Int)) (i : Int), xF o i (d ++ [p]) = xF o i d ++ [mkX o (i + d.length) p.1 p.2]
  | [], i => by show [mkX o i p.1 p.2] = [mkX o (i + ((0 : Nat) : Int)) p.1 p.2]; rw [Int.natCast_zero, Int.add_zero]
  | q :: d, i => by
    show mkX o i q.1 q.2 :: xF o (i + 1) (d ++ [p]) = mkX o i q.1 q.2 :: xF o (i + 1) d ++ [_]
    rw [xF_snoc o p d, List.length_cons, List.cons_append]
    have : i + 1 + (d.length : Int) = i + ((d.length + 1 : Nat) : Int) := by omega
    rw [this]
theorem xF_mem {o : Int} {r : Rs} : ∀ {d : List (Int × Int)} {i : Int}, r ∈ xF o i d → ∃ k p, p ∈ d ∧ i ≤ k ∧ k < i + d.length ∧ r = mkX o k p.1 p.2
  | [], _, h => by cases h
  | q :: d, i, h => by
    rcases List.mem_cons.1 h with rfl | h
    · exact ⟨i, q, List.mem_cons_self .., by omega, by rw [List.length_cons]; omega, rfl⟩
    · obtain ⟨k, p, h1, h2, h3, h4⟩ := xF_mem h
      exact ⟨k, p, List.mem_cons_of_mem _ h1, by omega, by rw [List.length_cons]; omega, h4⟩
theorem xF_has {o : Int} {p : Int × Int} : ∀ {d : List (Int × Int)} {i : Int}, p ∈ d → ∃ k, mkX o k p.1 p.2 ∈ xF o i d
  | q :: d, i, h => by
    rcases List.mem_cons.1 h with rfl | h
    · exact ⟨i, List.mem_cons_self ..⟩
    · obtain ⟨k, hk⟩ := xF_has (i := i + 1) h
      exact ⟨k, List.mem_cons_of_mem _ hk⟩
theorem cmpL_lt {x y : Int} {xs ys : List Int} (h : x < y) : cmpL (x :: xs) (y :: ys) < 0 := by
  have h1 : cmp3 x y = -1 := by unfold cmp3; rw [if_pos h]
  have h2 : cmpL (x :: xs) (y :: ys) = if cmp3 x y ≠ 0 then cmp3 x y else cmpL xs ys := rfl
  rw [h2, if_pos (by rw [h1]; decide), h1]; decide
theorem xF_up (o : Int) : ∀ (d : List (Int × Int)) (i : Int), Up cmpR (xF o i d)
  | [], _ => List.Pairwise.nil
  | p :: d, i => by
    refine List.pairwise_cons.2 ⟨fun r hr => ?_, xF_up o d (i + 1)⟩
    obtain ⟨k, q, _, h1, _, rfl⟩ := xF_mem hr
    exact cmpL_lt (show 10 * i < 10 * k by omega)
theorem xF_countP {o : Int} {f : Int → Bool → Bool} : ∀ (d : List (Int × Int)) (i : Int), (xF o i d).countP (fun r => f r.tt r.an) = d.countP fun p => f p.1 (decide (p.2 = 0))
  | [], _ => rfl
  | p :: d, i => by
    show (mkX o i p.1 p.2 :: xF o (i + 1) d).countP _ = _
    rw [List.countP_cons, List.countP_cons, xF_countP d]
    rfl
def x0T : Tk := ⟨0, 9, 17⟩
theorem xF_chain {o : Int} {n : Nat} {d : List (Int × Int)} (ho : 0 ≤ o ∧ o ≤ 9) (hn : n ≤ 255) (hd : d.length ≤ 900) (h1 : ∀ p ∈ d, 1 ≤ p.1 ∧ p.1 ≤ n) (h2 : ∀ t : Int, 1 ≤ t → t ≤ n → (t, 0) ∈ d) : Chain n x0T (xF o 0 d) where
  up := xF_up o d 0
  ok r hr := by
    obtain ⟨k, p, hp, hk1, hk2, rfl⟩ := xF_mem hr
    obtain ⟨ht1, ht2⟩ := h1 p hp
    have hv := adN_val (t := p.1) (by omega) (by omega)
    refine ⟨?_, rfl, rfl, rfl, ht1, ht2, fun ha => ?_⟩
    · have hP1 : ¬ P1 (mkX o k p.1 p.2) := by unfold P1 mkX; simp only; omega
      have hP2 : ¬ P2 (mkX o k p.1 p.2) := by unfold P2 mkX; simp only; omega
      by_cases hw : p.2 = 0
      · have hP3 : ¬ P3 (mkX o k p.1 p.2) := by unfold P3 mkX; simp [hw]
        have hP4 : ¬ P4 (mkX o k p.1 p.2) := by unfold P4 mkX; simp only [hw, if_true]; omega
        have hck : ckE (mkX o k p.1 p.2) = 0 := by unfold ckE; rw [if_neg hP1, if_neg hP2, if_neg hP3, if_neg hP4]
        have hf : (mkX o k p.1 p.2).fr.val ≠ 0 := by
          show (if p.2 = 0 then adN p.1 else 0).val ≠ 0
          rw [if_pos hw]; omega
        unfold okR
        rw [hck, decide_eq_true hf]
        simp [mkX]
      · have e1 : (mkX o k p.1 p.2).an = false := decide_eq_false hw
        have hP3 : ¬ P3 (mkX o k p.1 p.2) := by unfold P3 mkX anI; simp [hw]
        have hP4 : ¬ P4 (mkX o k p.1 p.2) := by unfold P4; rw [e1]; simp
        have hck : ckE (mkX o k p.1 p.2) = 0 := by unfold ckE; rw [if_neg hP1, if_neg hP2, if_neg hP3, if_neg hP4]
        unfold okR
        rw [hck, e1]
        simp [mkX]
    · have hw : p.2 = 0 := of_decide_eq_true ha
      refine ⟨?_, ?_⟩ <;> show (if p.2 = 0 then _ else _) = _ <;> rw [if_pos hw]
      rfl
  all t ht1 ht2 := by
    obtain ⟨k, hk⟩ := xF_has (o := o) (i := 0) (h2 t ht1 ht2)
    exact ⟨_, hk, rfl, rfl⟩
theorem xF_cnt {o : Int} {n : Nat} {d : List (Int × Int)} (ho : 0 ≤ o ∧ o ≤ 9) (hn : n ≤ 3) (hd : d.length ≤ 500) (h1 : ∀ p ∈ d, 1 ≤ p.1 ∧ p.1 ≤ n) (h2 : ∀ t : Int, 1 ≤ t → t ≤ n → (t, 0) ∈ d) {k b : Int} (hk1 : 1 ≤ k) (hk2 : k ≤ n) (hb : 0 ≤ b) (hb2 : b ≤ 1048576) :
    cntF (xF o 0 d) (wk k) b = (⟨wk k, ((d.countP fun p => decide (k ≤ p.1) && (decide (p.2 = 0) == true) : Nat) : Int) + (d.countP fun p => decide (k ≤ p.1) && (decide (p.2 = 0) == false) : Nat), max 0 ((d.countP fun p => decide (k ≤ p.1) && (decide (p.2 = 0) == false) : Nat) - b), (d.countP fun p => decide (k ≤ p.1) && (decide (p.2 = 0) == false) : Nat)⟩, 0) := by
  rw [(xF_chain ho (by omega) (by omega) h1 h2).cnt hn (by rw [xF_len]; omega) hk1 hk2 hb hb2]
  rw [xF_countP (f := fun t a => decide (k ≤ t) && (a == true)), xF_countP (f := fun t a => decide (k ≤ t) && (a == false))]
end Go.Proofs.YtlkdkbdgnjcopaaGreat
namespace Go.Proofs.YtlkdkbdgnjcopaaGreat
open Go.Own Go.Limbs
attribute [local irreducible] St Ops Go.Own.Fin Ok OkB OkN OkT OkL OkF
abbrev cnCs (c : Cn) : List CT := [adrF c.wr.1, adrF c.wr.2, intC c.se, intC c.lo, intC c.hi]
abbrev cnC (c : Cn) : CT := .fr (aggT (cnCs c))
abbrev csCs (c : Int × Int) : List CT := [intC c.1, intC c.2]
abbrev csC (c : Int × Int) : CT := .fr (aggT (csCs c))
theorem lCn : LdN Tryz.prog 39 5 := LdN.of _ Tryz.underlying39 rfl (by kernel_rfl)
theorem szCn : (Tryz.prog.info? 39).map (·.size) = some 5 := by kernel_rfl
theorem zvCn : (Tryz.prog.info? 39).map (·.zero) = some (some (.agg #[.int .u32 0, .int .u32 0, .int .i64 0, .int .i64 0, .int .i64 0])) := by kernel_rfl
theorem bCn : bInfo Tryz.prog 39 = some (.agg #[.int .u32 0, .int .u32 0, .int .i64 0, .int .i64 0, .int .i64 0], [(0, some 2), (2, some 1), (3, some 1), (4, some 1)]) := by kernel_rfl
theorem fCn1 : fldInfo Tryz.prog 39 1 = some (2, some 1) := by kernel_rfl
theorem fCn2 : fldInfo Tryz.prog 39 2 = some (3, some 1) := by kernel_rfl
theorem fCn3 : fldInfo Tryz.prog 39 3 = some (4, some 1) := by kernel_rfl
theorem lCs : LdN Tryz.prog 81 2 := LdN.of _ Tryz.underlying81 rfl (by kernel_rfl)
theorem szCs : (Tryz.prog.info? 81).map (·.size) = some 2 := by kernel_rfl
theorem zvCs : (Tryz.prog.info? 81).map (·.zero) = some (some (.agg #[.int .i64 0, .int .i64 0])) := by kernel_rfl
theorem bCs : bInfo Tryz.prog 81 = some (.agg #[.int .i64 0, .int .i64 0], [(0, some 1), (1, some 1)]) := by kernel_rfl
theorem fCs0 : fldInfo Tryz.prog 81 0 = some (0, some 1) := by kernel_rfl
theorem fCs1 : fldInfo Tryz.prog 81 1 = some (1, some 1) := by kernel_rfl
end Go.Proofs.YtlkdkbdgnjcopaaGreat
namespace Go.Proofs.YtlkdkbdgnjcopaaGreat
open Go.Own Go.Limbs
section
variable {κ β : Type} [DecidableEq κ]
theorem ins_keys (l : List (κ × β)) (a : κ) (b : β) : (ins l a b).map (·.1) = if a ∈ l.map (·.1) then l.map (·.1) else l.map (·.1) ++ [a] := by
  induction l with
  | nil => rfl
  | cons p l ih =>
    obtain ⟨k, v⟩ := p
    simp only [ins, List.map_cons, List.mem_cons]
    by_cases h : a = k
    · subst h; simp
    · rw [if_neg h, List.map_cons, ih]
      by_cases h2 : a ∈ l.map (·.1)
      · rw [if_pos h2, if_pos (.inr h2)]
      · rw [if_neg h2, if_neg (fun h3 => h3.elim h h2)]; rfl
theorem ins_nodup {l : List (κ × β)} (h : (l.map (·.1)).Nodup) (a : κ) (b : β) : ((ins l a b).map (·.1)).Nodup := by
  rw [ins_keys]
  split
  · exact h
  · rename_i h2
    rw [List.nodup_append]
    refine ⟨h, by simp, fun x hx y hy e => ?_⟩
    rw [List.mem_singleton] at hy
    exact h2 (by rw [← hy, ← e]; exact hx)
theorem ins_len (l : List (κ × β)) (a : κ) (b : β) : (ins l a b).length ≤ l.length + 1 := by
  have := congrArg List.length (ins_keys l a b)
  rw [List.length_map] at this
  rw [this]
  split
  · rw [List.length_map]; omega
  · rw [List.length_append, List.length_map]; exact Nat.le_refl _
theorem look1_some (l : List (κ × β)) (a : κ) : (look1 l a).isSome = true ↔ a ∈ l.map (·.1) := by
  induction l with
  | nil => simp [look1]
  | cons p l ih =>
    obtain ⟨k, v⟩ := p
    simp only [look1, List.map_cons, List.mem_cons]
    by_cases h : a = k
    · simp [h]
    · rw [if_neg h, ih]; exact ⟨.inr, fun h2 => h2.resolve_left h⟩
end
abbrev AlM := List (Wr × (Int × Int))
abbrev CrM := List (Wr × Bool)
def tickV (an : Bool) (c : Int × Int) : Int × Int := (c.1 + 1, if an = true then c.2 else c.2 + 1)
def tickS (an : Bool) (s : AlM × CrM) (w : Wr) : AlM × CrM :=
  if (look1 s.2 w).getD false = true then s else (ins s.1 w (tickV an ((look1 s.1 w).getD (0, 0))), ins s.2 w true)
def tickR (wy : Rs → List Wr) (m : AlM) (r : Rs) : AlM := ((wy r).foldl (tickS r.an) (m, [])).1
def tickF (wy : Rs → List Wr) (o : List Rs) : AlM := o.foldl (tickR wy) []
theorem tickS_look (an : Bool) (w : Wr) : ∀ (ws : List Wr) (s : AlM × CrM), (∀ v, (look1 s.2 v).getD false = true → (look1 s.2 v).getD false = true) →
    look1 (ws.foldl (tickS an) s).1 w = if w ∈ ws ∧ (look1 s.2 w).getD false = false then some (tickV an ((look1 s.1 w).getD (0, 0))) else look1 s.1 w
  | [], s, _ => by rw [if_neg (by simp)]; rfl
  | v :: ws, s, _ => by
    rw [List.foldl_cons, tickS_look an w ws _ (fun _ h => h)]
    unfold tickS
    by_cases hv : (look1 s.2 v).getD false = true
    · rw [if_pos hv]
      by_cases e : w = v
      · subst e
        rw [if_neg (by rw [hv]; simp), if_neg (by rw [hv]; simp)]
      · simp only [List.mem_cons, e, false_or]
    · rw [if_neg hv]
      simp only [ZY]
      by_cases e : w = v
      · subst e
        rw [if_pos rfl, if_pos rfl, if_neg (by simp), if_pos ⟨List.mem_cons_self .., by simpa using hv⟩]
      · rw [if_neg e, if_neg e]
        simp only [List.mem_cons, e, false_or]
theorem tickS_len (an : Bool) : ∀ (ws : List Wr) (s : AlM × CrM), (ws.foldl (tickS an) s).1.length ≤ s.1.length + ws.length
  | [], s => Nat.le_refl _
  | v :: ws, s => by
    rw [List.foldl_cons, List.length_cons]
    refine Nat.le_trans (tickS_len an ws _) ?_
    unfold tickS
    split
    · omega
    · have := ins_len s.1 v (tickV an ((look1 s.1 v).getD (0, 0)))
      dsimp only
      omega
theorem tickS_nodup (an : Bool) : ∀ (ws : List Wr) (s : AlM × CrM), (s.1.map (·.1)).Nodup → ((ws.foldl (tickS an) s).1.map (·.1)).Nodup
  | [], s, h => h
  | v :: ws, s, h => by
    rw [List.foldl_cons]
    refine tickS_nodup an ws _ ?_
    unfold tickS
    split
    · exact h
    · exact ins_nodup h _ _
theorem tickR_look (wy : Rs → List Wr) (m : AlM) (r : Rs) (w : Wr) : look1 (tickR wy m r) w = if w ∈ wy r then some (tickV r.an ((look1 m w).getD (0, 0))) else look1 m w := by
  unfold tickR
  rw [tickS_look r.an w (wy r) (m, []) (fun _ h => h)]
  simp [look1]
theorem tickF_nodup (wy : Rs → List Wr) : ∀ (o : List Rs) (m : AlM), (m.map (·.1)).Nodup → ((o.foldl (tickR wy) m).map (·.1)).Nodup
  | [], _, h => h
  | r :: o, m, h => tickF_nodup wy o _ (tickS_nodup r.an (wy r) (m, []) h)
theorem tickF_len (wy : Rs → List Wr) (N : Nat) (hN : ∀ r, (wy r).length ≤ N) : ∀ (o : List Rs) (m : AlM), (o.foldl (tickR wy) m).length ≤ m.length + o.length * N
  | [], m => by simp
  | r :: o, m => by
    rw [List.foldl_cons, List.length_cons]
    refine Nat.le_trans (tickF_len wy N hN o _) ?_
    have h1 := tickS_len r.an (wy r) (m, [])
    have h2 := hN r
    have h3 : (tickR wy m r).length ≤ m.length + (wy r).length := h1
    rw [Nat.succ_mul]
    omega
theorem tickF_look (wy : Rs → List Wr) (w : Wr) : ∀ (o : List Rs) (m : AlM),
    (look1 (o.foldl (tickR wy) m) w).getD (0, 0) = (((look1 m w).getD (0, 0)).1 + (o.filter fun r => decide (w ∈ wy r)).length, ((look1 m w).getD (0, 0)).2 + (o.filter fun r => decide (w ∈ wy r) && (r.an == false)).length)
  | [], m => by simp
  | r :: o, m => by
    rw [List.foldl_cons, tickF_look wy w o, tickR_look]
    by_cases h : w ∈ wy r
    · rw [if_pos h, List.filter_cons_of_pos (by simpa using h)]
      cases ha : r.an with
      | true =>
        rw [List.filter_cons_of_neg (by simp [ha])]
        refine Prod.ext ?_ ?_
        · show _ + 1 + _ = _ + ((_ + 1 : Nat) : Int); omega
        · rfl
      | false =>
        rw [List.filter_cons_of_pos (by simp [h, ha])]
        refine Prod.ext ?_ ?_
        · show _ + 1 + _ = _ + ((_ + 1 : Nat) : Int); omega
        · show _ + 1 + _ = _ + ((_ + 1 : Nat) : Int); omega
    · rw [if_neg h, List.filter_cons_of_neg (by simpa using h), List.filter_cons_of_neg (by simp [h])]
theorem tickF_some (wy : Rs → List Wr) (w : Wr) : ∀ (o : List Rs) (m : AlM), (look1 (o.foldl (tickR wy) m) w).isSome = true ↔ (look1 m w).isSome = true ∨ ∃ r ∈ o, w ∈ wy r
  | [], m => by simp
  | r :: o, m => by
    rw [List.foldl_cons, tickF_some wy w o, tickR_look]
    by_cases h : w ∈ wy r
    · rw [if_pos h]; exact ⟨fun _ => .inr ⟨r, List.mem_cons_self .., h⟩, fun _ => .inl rfl⟩
    · rw [if_neg h]
      constructor
      · rintro (h1 | ⟨x, hx, h1⟩)
        · exact .inl h1
        · exact .inr ⟨x, List.mem_cons_of_mem _ hx, h1⟩
      · rintro (h1 | ⟨x, hx, h1⟩)
        · exact .inl h1
        · rcases List.mem_cons.1 hx with rfl | hx
          · exact absurd h1 h
          · exact .inr ⟨x, hx, h1⟩
theorem tick_bound (wy : Rs → List Wr) (w : Wr) (o : List Rs) : 0 ≤ ((look1 (tickF wy o) w).getD (0, 0)).2 ∧ ((look1 (tickF wy o) w).getD (0, 0)).2 ≤ ((look1 (tickF wy o) w).getD (0, 0)).1 ∧ ((look1 (tickF wy o) w).getD (0, 0)).1 ≤ o.length := by
  unfold tickF
  rw [tickF_look]
  have h1 := List.length_filter_le (fun r => decide (w ∈ wy r)) o
  have h2 : (o.filter fun r => decide (w ∈ wy r) && (r.an == false)).length ≤ (o.filter fun r => decide (w ∈ wy r)).length := by
    rw [← List.countP_eq_length_filter, ← List.countP_eq_length_filter]
    refine List.countP_mono_left fun r _ hp => ?_
    rw [Bool.and_eq_true] at hp
    exact hp.1
  have e : ∀ w : Wr, (look1 ([] : AlM) w).getD (0, 0) = (0, 0) := fun _ => rfl
  rw [e]
  dsimp only
  omega
def cnOf (m : AlM) (n : Int) (w : Wr) : Cn := ⟨w, ((look1 m w).getD (0, 0)).1, max 0 (((look1 m w).getD (0, 0)).2 - n), ((look1 m w).getD (0, 0)).2⟩
def alO (l : List Rs) (n : Int) : List Cn × Int :=
  if n < 0 ∨ 1048576 < n then ([], 1) else if ¬ chkF l = 0 then ([], chkF l)
  else ((sd cmpW ((tickF (wayF l) (sd cmpR (l.filter okR))).map (·.1))).map (cnOf (tickF (wayF l) (sd cmpR (l.filter okR))) n), 0)
theorem cn_len (x : Cn) : (cnCs x).length = 5 := rfl
abbrev cnsC (l : List Cn) : CT := .fr (sliceT 5 (l.map cnCs))
def cns (l : List Cn) : List CT := (l.map cnCs).flatten
theorem cns_frozen (e : Nat) (l : List Cn) : (Ent.row e 5 (cns l)).frozen (sliceT 5 (l.map cnCs)) :=
  ⟨_, rfl, fun e he => by obtain ⟨m, _, rfl⟩ := List.mem_map.mp he; rfl, by decide, rfl⟩
theorem cns_at {l : List Cn} {j : Int} (h0 : 0 ≤ j) (h : j < (l.length : Int)) : (l.map cnCs)[j.toNat]? = some (cnCs (l.getD j.toNat cn0)) := by
  have : j.toNat < l.length := by omega
  simp [List.getElem?_map, List.getElem?_eq_getElem this, List.getD_eq_getElem?_getD]
theorem cns_len (l : List Cn) : (cns l).length = l.length * 5 := el_len cn_len l
theorem cns_snoc (l : List Cn) (r : Cn) : cns (l ++ [r]) = cns l ++ cnCs r := by simp [cns]
theorem sCns : SlcT Tryz.prog 48 39 5 32 (.agg #[.int .u32 0, .int .u32 0, .int .i64 0, .int .i64 0, .int .i64 0]) := SlcT.of Tryz.underlying48 (by kernel_rfl) rfl (by decide)
theorem uMAll : Tryz.prog.underlying 96 = some (.map 37 81) := Tryz.underlying96
theorem uMCr : Tryz.prog.underlying 98 = some (.map 37 4) := Tryz.underlying98
theorem z0Cs (w : World) : (zeroValue 81).run Tryz.prog w = .ok (.agg #[.int .i64 0, .int .i64 0]) w := Xc (by kernel_rfl) w
theorem z0Bool (w : World) : (zeroValue 4).run Tryz.prog w = .ok (.bool false) w := Xc (by kernel_rfl) w
theorem csZ (S : BSet) (w : World) : (csC ((0, 0) : Int × Int)).p S w (.agg #[.int .i64 0, .int .i64 0]) := ⟨[.int .i64 0, .int .i64 0], rfl, rfl, rfl, trivial⟩
abbrev alKv (m : AlM) : List (Value × CT) := kvs wrE csC m
abbrev crKv (m : CrM) : List (Value × CT) := kvs wrE boolC m
end Go.Proofs.YtlkdkbdgnjcopaaGreat
namespace Go.Own
open Go.RowKit
variable {X : Ctx} {L : AL} {B : BL}
theorem Ops.nilRow {ops : Array Oper} {K : Act → World → Prop} {l : Pl} (dd i : Nat) (e n : Nat) (hd : look L dd = some (.ct (.ex (.slice none 0 0)))) (hN : noN i L = true) (hB : bget B i = none) (h : Ops X ops l ((dd, .own i) :: L) ((i, .row e n []) :: B) K) : Ops X ops l L B K := Fin.nilRow dd i e n hd hN hB h
theorem addW (x y : Int) : IBin .add .i64 x .i64 y (.int .i64 (IntKind.i64.wrap (x + y))) := .of fun _ _ _ => rfl
end Go.Own
namespace Go.Proofs.YtlkdkbdgnjcopaaGreat
open Go.Own
attribute [local irreducible] St Ops Go.Own.Fin Ok OkB OkN OkT OkL OkF wpR
instance : Inhabited Nt := ⟨⟨0, 0, 0, [], 0⟩⟩
abbrev nt0 : Nt := ⟨0, 0, 0, [], 0⟩
theorem nt_len (q : Nt) : (ntCs q).length = 5 := rfl
abbrev zNums : Value := .agg #[.int .i64 0, .int .i64 0, .int .i64 0, .int .i64 0, .int .i64 0, .int .i64 0, .int .i64 0, .int .i64 0, .int .i64 0, .int .i64 0, .int .i64 0, .int .i64 0, .int .i64 0, .int .i64 0, .int .i64 0, .int .i64 0]
theorem aNums : ArrT Tryz.prog 117 3 16 1 zNums := ⟨Tryz.underlying117, by kernel_rfl, by kernel_rfl⟩
theorem zvNums : (Tryz.prog.info? 117).map (·.zero) = some (some zNums) := by kernel_rfl
theorem rss_snocD (l : List Rs) (r : Rs) : rss (l ++ [r]) = rss l ++ rsCs r := by rw [rss_app]; simp [rss]
theorem nets_get {l : List Nt} (h : ∀ q ∈ l, NtIn q) {i : Nat} (hi : i < l.length) : NtIn (l.getD i nt0) := by
  rw [List.getD_eq_getElem?_getD, List.getElem?_eq_getElem hi]
  exact h _ (List.getElem_mem hi)
theorem mem_getG {α : Type} {P : α → Prop} {xs : List α} {z : α} (h : ∀ y ∈ xs, P y) {i : Nat} (hi : i < xs.length) : P (xs.getD i z) := by
  rw [List.getD_eq_getElem?_getD, List.getElem?_eq_getElem hi]
  exact h _ (List.getElem_mem hi)
theorem mem_setG {α : Type} {P : α → Prop} {xs : List α} {x : α} (h : ∀ y ∈ xs, P y) (hx : P x) (i : Nat) : ∀ y ∈ xs.set i x, P y := fun y hy => by
  rcases List.mem_or_eq_of_mem_set hy with h1 | h1
  · exact h y h1
  · rw [h1]; exact hx
structure RSt where
  k : Int
  ns : List Nt
  tm : Int
  id : Int
  nu : List Int
  out : List Rs
  p : Nat
structure ROk (most : Int) (s : RSt) : Prop where
  k0 : 0 ≤ s.k
  kl : s.out.length + s.k ≤ most
  n1 : 1 ≤ s.ns.length
  n2 : s.ns.length ≤ 2
  nt : ∀ q ∈ s.ns, NtIn q
  t0 : 0 ≤ s.tm
  t1 : s.tm + 100 * s.k ≤ 20000
  i0 : 0 ≤ s.id
  i1 : s.id + 10 * s.k ≤ 80000
  nl : s.nu.length = 16
  nb : ∀ x ∈ s.nu, 0 ≤ x ∧ x ≤ s.out.length
  ok : ∀ r ∈ s.out, okR r = true
  lt : ∀ r ∈ s.out, 0 ≤ r.va ∧ r.va < 2 ∧ r.nu < s.nu.getD r.va.toNat 0
  un : s.out.Pairwise fun a b => ¬ (a.va = b.va ∧ a.nu = b.nu)
theorem getD_set {α : Type} {l : List α} {i j : Nat} {x z : α} (h : i < l.length) : (l.set i x).getD j z = if i = j then x else l.getD j z := by
  rw [List.getD_eq_getElem?_getD, List.getD_eq_getElem?_getD, List.getElem?_set]
  split
  · rfl
  · rfl
theorem numbers {out : List Rs} {nu : List Int} {va : Int} {r : Rs} (hl : nu.length = 16) (v0 : 0 ≤ va) (v1 : va < 2) (h1 : r.va = va) (h2 : r.nu = nu.getD va.toNat 0)
    (lt : ∀ r ∈ out, 0 ≤ r.va ∧ r.va < 2 ∧ r.nu < nu.getD r.va.toNat 0) (un : out.Pairwise fun a b => ¬ (a.va = b.va ∧ a.nu = b.nu)) :
    (∀ x ∈ out ++ [r], 0 ≤ x.va ∧ x.va < 2 ∧ x.nu < (nu.set va.toNat (nu.getD va.toNat 0 + 1)).getD x.va.toNat 0) ∧ (out ++ [r]).Pairwise fun a b => ¬ (a.va = b.va ∧ a.nu = b.nu) := by
  constructor
  · intro x hx
    rw [getD_set (by omega)]
    rcases List.mem_append.1 hx with hx | hx
    · obtain ⟨a, b, c⟩ := lt x hx
      refine ⟨a, b, ?_⟩
      by_cases e : va.toNat = x.va.toNat
      · rw [if_pos e, e]; omega
      · rw [if_neg e]; exact c
    · rw [List.mem_singleton] at hx
      subst hx
      rw [h1, if_pos rfl, h2]
      exact ⟨v0, v1, by omega⟩
  · rw [List.pairwise_append]
    refine ⟨un, List.pairwise_singleton _ _, fun a ha b hb h => ?_⟩
    rw [List.mem_singleton] at hb
    subst hb
    obtain ⟨_, _, c⟩ := lt a ha
    rw [h.1, h1, h.2, h2] at c
    exact Int.lt_irrefl _ c
theorem wrap64_small {n : Int} (h1 : 0 ≤ n) (h2 : n < 4294967296) : IntKind.i64.wrap n = n := by
  simp [IntKind.wrap, IntKind.bits, IntKind.signed]; omega
theorem okR_of {r : Rs} (h1 : ¬ P1 r) (h2 : ¬ P2 r) (h3 : ¬ P3 r) (h4 : ¬ P4 r) (h5 : r.dst ≠ 0) (h6 : r.an = true → r.fr ≠ 0) : okR r = true := by
  have e : ckE r = 0 := by unfold ckE; rw [if_neg h1, if_neg h2, if_neg h3, if_neg h4]
  have hv : ∀ a : Ad, a ≠ 0 → a.val ≠ 0 := fun a h e => h (_root_.Fin.ext e)
  unfold okR
  rw [decide_eq_true e, decide_eq_true (hv _ h5)]
  cases h : r.an with
  | false => rfl
  | true => rw [decide_eq_true (hv _ (h6 h))]; rfl
theorem okR_dead {va nu tm pr f tt bk : Int} {ds : Ad} (h1 : 0 ≤ va ∧ va ≤ 15) (h2 : 0 ≤ nu ∧ nu ≤ 999) (h3 : 0 ≤ tm ∧ tm ≤ bk ∧ bk ≤ 100000) (h4 : 0 ≤ f ∧ f ≤ 1023) (h5 : 1 ≤ tt ∧ tt ≤ 255) (hp : pr = 17 ∨ pr = 1 ∨ pr = 6) (hd : ds ≠ 0) :
    okR ⟨va, 0, nu, tm, ds, pr, f, tt, false, false, bk, 0, 0, 0, 0, 0, 0⟩ = true := by
  refine okR_of ?_ ?_ ?_ ?_ hd (fun h => by cases h)
  · unfold P1; dsimp only; omega
  · unfold P2; dsimp only; omega
  · rintro ⟨_, h | h⟩
    · cases h
    · exact h rfl
  · rintro ⟨h, _⟩; cases h
theorem okR_live {va nu tm pr f tt bk ki id : Int} {ds a : Ad} {db : Bool} (h1 : 0 ≤ va ∧ va ≤ 15) (h2 : 0 ≤ nu ∧ nu ≤ 999) (h3 : 0 ≤ tm ∧ tm ≤ bk ∧ bk ≤ 100000) (h4 : 0 ≤ f ∧ f ≤ 1023) (h5 : 1 ≤ tt ∧ tt ≤ 255) (hp : pr = 17 ∨ pr = 1 ∨ pr = 6) (hd : ds ≠ 0) (ha : a ≠ 0) (hk : 1 ≤ ki ∧ ki ≤ 5) (hi : 0 ≤ id ∧ id ≤ 65535) :
    okR ⟨va, 0, nu, tm, ds, pr, f, tt, true, db, bk, a, ki, 0, 60, id, 1⟩ = true := by
  refine okR_of ?_ ?_ ?_ ?_ hd (fun _ => ha)
  · unfold P1; dsimp only; omega
  · unfold P2; dsimp only; omega
  · rintro ⟨h, _⟩; cases h
  · rintro ⟨_, h⟩; dsimp only at h; omega
end Go.Proofs.YtlkdkbdgnjcopaaGreat
namespace Go.Proofs.YtlkdkbdgnjcopaaGreat
open Go.Own
attribute [local irreducible] St Ops Go.Own.Fin Ok OkB OkN OkT OkL OkF wpR
theorem goResults : InGo Tryz.prog 22 := InGo.of Tryz.func22 rfl (by decide)
set_option maxHeartbeats 16000000 in
theorem Results_ok (bs : List Int) (p : Nat) (most : Int) (st : Bool) (h0 : 0 ≤ most) (h1 : most ≤ 100) (hb : Bytes bs) : OkB Tryz.prog 22 78 (codes bs p) [intC most, boolC st] (fun q : List Rs × Nat => (q.1.length : Int) ≤ most ∧ (∀ r ∈ q.1, okR r = true) ∧ q.1.Pairwise fun a b => ¬ (a.va = b.va ∧ a.nu = b.nu)) (fun q => rssC q.1) (fun q => codes bs q.2) := by
  refine OkB.enter Tryz.func22 rfl _ Tryz.ntmps22 rfl ?_
  intro S w g
  (refine Qw (Qq fun K hK => ?_); refine Qv rfl rfl rfl ?_; refine Qj (hK _ _ (Qz (Qw ?_))); clear hK K; refine Qq (fun K hK => ?_); refine Qx rfl rfl rfl ?_)
  refine Xw goScene (scene_ok bs p hb) rfl rfl rfl rfl rfl (fun q hq => ?_)
  obtain ⟨n1, p1⟩ := q
  dsimp only at hq ⊢
  skip
  refine Ops.litE 1 (m := 1) (n := 5) (zv := zNet) (cs := nts [n1]) rfl rfl (by with_reducible exact sNets) (.agg (n := 5) rfl rfl rfl rfl .nil) (by decide) rfl rfl rfl ?_
  (refine Qv rfl rfl rfl ?_; refine Qj (hK _ _ (Qz (Qw (Qw ?_)))); clear hK K; refine Qq (fun K hK => ?_); refine Qx rfl rfl rfl ?_)
  refine Xw goBool (BoolB_ok bs p1 3 (by decide) (by decide) hb) rfl rfl rfl rfl rfl (fun q _ => ?_)
  obtain ⟨b1, p2⟩ := q
  dsimp only
  (refine Qj (hK _ _ (Qz ?_)); clear hK K)
  refine ZU (α := List Nt × Nat) (fun x => 1 ≤ x.1.length ∧ x.1.length ≤ 2 ∧ ∀ q ∈ x.1, NtIn q) (fun _ => [(0, .own 0), (1, .ct (intC most)), (2, .ct (boolC st)), (7, .own 1)]) (fun x => [(1, .row 113 5 (nts x.1)), (0, .box 78 (codes bs x.2))]) (fun x hx => ?_) (fun KK hN => ?_)
  rotate_left
  · refine Xy rfl (fun _ => ?_) (fun _ => ?_)
    · (refine Qq (fun K hK => ?_); refine Qx rfl rfl rfl ?_; refine Qx rfl rfl rfl ?_)
      refine Xw goScene (scene_ok bs p2 hb) rfl rfl rfl rfl rfl (fun q hq2 => ?_)
      obtain ⟨n2, p3⟩ := q
      dsimp only at hq2 ⊢
      refine X4 (n := 5) rfl rfl (by with_reducible exact sNets) rfl rfl (by decide) rfl ?_
      refine Qt 1 (nts [n1, n2]) rfl rfl rfl rfl (by with_reducible exact sNets) rfl rfl (by decide) (by decide) rfl rfl ?_
      (refine Qv rfl rfl rfl ?_; refine Qj (hK _ _ ?_); clear hK K)
      exact Xq hN ([n1, n2], p3) ⟨by simp, by simp, by simp [hq, hq2]⟩ (by exact QX rfl ⟨rfl, rfl, rfl, rfl, trivial⟩)
    · (refine Q1 ?_)
      exact Xq hN ([n1], p2) ⟨by simp, by simp, by simp [hq]⟩ (by exact QX rfl ⟨rfl, rfl, rfl, rfl, trivial⟩)
  clear hq
  obtain ⟨ns0, p3⟩ := x
  obtain ⟨hn1, hn2, hnt⟩ := hx
  dsimp only at hn1 hn2 hnt ⊢
  (refine Qw (Qq fun K hK => ?_); refine Qv rfl rfl rfl ?_; refine Qj (hK _ _ (Qz (Qw ?_))); clear hK K; refine Qq (fun K hK => ?_); refine Qx rfl rfl rfl ?_)
  refine Ops.nilRow 8 2 35 17 rfl rfl rfl ?_
  skip
  refine Xw goNext (Zd bs p3 50 (by decide) (by decide) hb) rfl rfl rfl rfl rfl (fun q hq => ?_)
  obtain ⟨at0, p4⟩ := q
  dsimp only at hq ⊢
  (refine Qx rfl rfl rfl ?_)
  refine Xw goNext (Zd bs p4 700 (by decide) (by decide) hb) rfl rfl rfl rfl rfl (fun q hq2 => ?_)
  obtain ⟨id0, p5⟩ := q
  dsimp only at hq2 ⊢
  (refine Qk (imul (by omega) (by omega)) rfl rfl rfl rfl ?_; refine Qv rfl rfl rfl ?_; refine Qv rfl rfl rfl ?_; refine Qj (hK _ _ (Qz (Qw ?_))); clear hK K; refine Qq (fun K hK => ?_))
  refine Qg 3 rfl rfl (by with_reducible exact zvNums) rfl rfl rfl ?_
  (refine Qj (hK _ _ (Qz (Qw (Qw ?_)))); clear hK K; refine Qq (fun K hK => ?_); refine Qx rfl rfl rfl ?_; refine Qx rfl rfl rfl ?_; refine Qk (iadd (by omega) (by omega)) rfl rfl rfl rfl ?_)
  refine Xw goNext (Zd bs p5 (most + 1) (by omega) (by omega) hb) rfl rfl rfl rfl rfl (fun q hq3 => ?_)
  obtain ⟨k0, p6⟩ := q
  dsimp only at hq3 ⊢
  (refine Qv rfl rfl rfl ?_; refine Qj (hK _ _ (Qz (Q4 ?_))); clear hK K)
  refine Xj (α := RSt) (ROk most)
    (fun x => [(0, .own 0), (1, .ct (intC most)), (2, .ct (boolC st)), (7, .own 1), (8, .own 2), (9, .ct (intC x.tm)), (10, .ct (intC x.id)), (11, .own 3), (12, .ct (intC x.k))])
    (fun x => [(3, .box 117 (ints x.nu)), (2, .row 35 17 (rss x.out)), (1, .row 113 5 (nts x.ns)), (0, .box 78 (codes bs x.p))])
    (fun x => x.k.toNat) ⟨k0, ns0, at0, 100 * id0, List.replicate 16 0, [], p6⟩ ⟨hq3.1, by simp; omega, hn1, hn2, hnt, hq.1, by dsimp only; omega, by dsimp only; omega, by dsimp only; omega, rfl, by simp, by simp, by simp, List.Pairwise.nil⟩ (by exact QX rfl ⟨rfl, rfl, rfl, rfl, rfl, rfl, rfl, rfl, rfl, trivial⟩) ?_
  rintro ⟨k, ns, tm, id, nu, out, q0⟩ ⟨hk0, hkl, hn1, hn2, hnt, ht0, ht1, hi0, hi1, hnl, hnb, hok, hlt9, hun⟩
  dsimp only at hk0 hkl hn1 hn2 hnt ht0 ht1 hi0 hi1 hnl hnb hok hlt9 hun ⊢
  (refine Qw (Qw (Qq fun K hK => ?_)); refine Qx rfl rfl rfl ?_; refine Qk igtr rfl rfl rfl rfl ?_; refine Qj (hK _ _ (Qz ?_)); clear hK K)
  refine Q2 rfl (fun hk => ?_) (fun hk => ?_)
  · (refine Q1 (Qz (Qw (Q4 (Qw (Qq fun K hK => ?_))))); refine Qx rfl rfl rfl ?_; refine Qx rfl rfl rfl ?_; refine Yj _ rfl rfl rfl (by decide) (nts_len _) (by with_reducible exact sNets.und) rfl ?_)
    refine Xw goNext (Zd bs q0 ns.length (by omega) (by omega) hb) rfl rfl rfl rfl rfl (fun q hq4 => ?_)
    obtain ⟨i, q1⟩ := q
    dsimp only at hq4 ⊢
    refine Qv rfl rfl rfl ?_
    refine Qj (hK _ _ ?_)
    clear hK K
    refine Qz ?_
    refine Qw ?_
    refine ZU (α := List Nt × Nat) (fun x => x.1.length = ns.length ∧ ∀ q ∈ x.1, NtIn q)
      (fun x => [(0, .own 0), (1, .ct (intC most)), (2, .ct (boolC st)), (7, .own 1), (8, .own 2), (9, .ct (intC tm)), (10, .ct (intC id)), (11, .own 3), (12, .ct (intC k)), (13, .ct (intC i))])
      (fun x => [(3, .box 117 (ints nu)), (2, .row 35 17 (rss out)), (1, .row 113 5 (nts x.1)), (0, .box 78 (codes bs x.2))]) (fun x hx => ?_) (fun KK hN => ?_)
    rotate_left
    · have hu : Tryz.prog.underlying 113 = _ := Tryz.underlying113
      (refine Qw (Qq fun K hK => ?_); refine Qx rfl rfl rfl ?_; refine Qm rfl rfl rfl ?_; refine Qx rfl rfl rfl ?_)
      refine X5 48 (b := !st) rfl (fun hs => ?_) (fun hs => ?_)
      · (refine Qx rfl rfl rfl ?_)
        refine Xw goBool (BoolB_ok bs q1 12 (by decide) (by decide) hb) rfl rfl rfl rfl rfl (fun q _ => ?_)
        obtain ⟨b2, q2⟩ := q
        dsimp only
        (refine QZ rfl rfl rfl rfl ?_; refine Qj (hK _ _ (Qz ?_)); clear hK K)
        refine Xy rfl (fun _ => ?_) (fun _ => ?_)
        · (refine Qq (fun K hK => ?_); refine Qx rfl rfl rfl ?_; refine Qx rfl rfl rfl ?_; refine Qx rfl rfl rfl ?_)
          refine Xw goScene (scene_ok bs q2 hb) rfl rfl rfl rfl rfl (fun q hq5 => ?_)
          obtain ⟨n2, q3⟩ := q
          dsimp only at hq5 ⊢
          refine Ops.fldV (off := 3) (cs := ntCs n2) (c := pthsC n2.ps) rfl rfl hu rfl rfl Tryz.underlying111 rfl rfl rfl ?_
          refine Zv ns.length rfl rfl rfl (nts_len ns) rfl (by with_reducible exact sNets) (by omega) (by omega) rfl ?_
          refine X7 rfl rfl (by with_reducible exact fH1) rfl ?_
          refine stE1 (j := i.toNat) (o := 3) (n := 5) ntCs nt0 ⟨(ns.getD i.toNat nt0).va, (ns.getD i.toNat nt0).ds, (ns.getD i.toNat nt0).pr, n2.ps, (ns.getD i.toNat nt0).la⟩ nt_len rfl rfl rfl rfl rfl (by omega) (by decide) rfl (by with_reducible exact zPths) ?_
          (refine Qj (hK _ _ ?_); clear hK K)
          have hi9 : NtIn (ns.getD i.toNat nt0) := nets_get hnt (by omega)
          exact Xq hN (ns.set i.toNat ⟨(ns.getD i.toNat nt0).va, (ns.getD i.toNat nt0).ds, (ns.getD i.toNat nt0).pr, n2.ps, (ns.getD i.toNat nt0).la⟩, q3) ⟨by simp, by refine mem_setG hnt ?_ _; exact ⟨hi9.v0, hi9.v1, hi9.d0, hi9.p0, hi9.a0, hq5.l0, hq5.l1, hq5.pl⟩⟩ (by exact QX rfl ⟨rfl, rfl, rfl, rfl, rfl, rfl, rfl, rfl, rfl, rfl, trivial⟩)
        · (refine Q1 ?_)
          exact Xq hN (ns, q2) ⟨rfl, hnt⟩ (by exact QX rfl ⟨rfl, rfl, rfl, rfl, rfl, rfl, rfl, rfl, rfl, rfl, trivial⟩)
      · (refine Qy rfl rfl rfl ?_; refine Qy rfl rfl rfl ?_; refine QU rfl rfl rfl rfl ?_; refine Qj (hK _ _ (Qz (Xv rfl (Q1 ?_)))); clear hK K)
        exact Xq hN (ns, q1) ⟨rfl, hnt⟩ (by exact QX rfl ⟨rfl, rfl, rfl, rfl, rfl, rfl, rfl, rfl, rfl, rfl, trivial⟩)
    obtain ⟨ns', q2⟩ := x
    obtain ⟨hnl', hnt'⟩ := hx
    dsimp only at hnl' hnt' ⊢
    (refine Qw (Qq fun K hK => ?_); refine Qx rfl rfl rfl ?_; refine Qx rfl rfl rfl ?_)
    refine Zv ns'.length rfl rfl rfl (nts_len ns') rfl (by with_reducible exact sNets) (by omega) (by omega) rfl ?_
    refine ldE ntCs nt0 nt_len rfl rfl rfl rfl rfl (by omega) (by with_reducible exact lNet) rfl ?_
    have hn9 : NtIn (ns'.getD i.toNat nt0) := nets_get hnt' (by omega)
    generalize ns'.getD i.toNat nt0 = n9 at hn9
    obtain ⟨va, ds, pr, ps, la⟩ := n9
    obtain ⟨v0, v1, d0, p0, a0, l0, l1, pl⟩ := hn9
    dsimp only at v0 v1 d0 p0 a0 l0 l1 pl ⊢
    have hnv : 0 ≤ nu.getD va.toNat 0 ∧ nu.getD va.toNat 0 ≤ out.length := mem_getG hnb (by omega)
    (refine Qg 4 rfl rfl (by with_reducible exact zvNet) rfl rfl rfl ?_; refine Qc 5 rfl rfl rfl rfl rfl (by with_reducible exact szNet) rfl rfl ?_; refine Qj (hK _ _ (Qz (Qw ?_))); clear hK K; refine Qq (fun K hK => ?_); refine Qx rfl rfl rfl ?_; refine QV rfl rfl rfl (by with_reducible first | exact fH0 | exact fH1 | exact fH2 | exact fS0 | exact fS1 | exact fS2 | exact fS3 | exact fS4 | exact fS5 | exact fS6 | exact fS7 | exact fS8 | exact fS9 | exact fS10 | exact fS11) rfl ?_; refine QJ rfl rfl rfl rfl rfl (by with_reducible first | exact lInt | exact Qa | exact lAdrs | exact lPths | exact Q5) rfl ?_; refine Qd rfl rfl (by with_reducible first | exact sAdrs.und | exact sPths.und | exact sRes.und) (List.length_map ..) rfl ?_)
    refine Xw goNext (Zd bs q2 ps.length (by omega) (by omega) hb) rfl rfl rfl rfl rfl (fun q hq5 => ?_)
    obtain ⟨f, q3⟩ := q
    dsimp only at hq5 ⊢
    (refine Qv rfl rfl rfl ?_; refine Qj (hK _ _ (Qz (Qw ?_))); clear hK K; refine Qq (fun K hK => ?_); refine QV rfl rfl rfl (by with_reducible first | exact fH0 | exact fH1 | exact fH2 | exact fS0 | exact fS1 | exact fS2 | exact fS3 | exact fS4 | exact fS5 | exact fS6 | exact fS7 | exact fS8 | exact fS9 | exact fS10 | exact fS11) rfl ?_; refine QJ rfl rfl rfl rfl rfl (by with_reducible first | exact lInt | exact Qa | exact lAdrs | exact lPths | exact Q5) rfl ?_; refine Qx rfl rfl rfl ?_)
    refine Ql rfl rfl rfl (by with_reducible exact sPths) (by omega) (pths_at (ps := ps) (j := f) (by omega) (by omega)) rfl ?_
    refine XQ rfl rfl rfl (by with_reducible exact lAdrs) rfl ?_
    have hp9 : 1 ≤ (ps.getD f.toNat []).length ∧ (ps.getD f.toNat []).length ≤ 3 := mem_getG pl (by omega)
    generalize ps.getD f.toNat [] = pp at hp9
    (refine Qv rfl rfl rfl ?_; refine Qj (hK _ _ (Qz (Qw ?_))); clear hK K; refine Qq (fun K hK => ?_); refine Qx rfl rfl rfl ?_; refine Qx rfl rfl rfl ?_)
    refine Xw goNext (Zd bs q3 40 (by decide) (by decide) hb) rfl rfl rfl rfl rfl (fun q hq6 => ?_)
    obtain ⟨dt, q4⟩ := q
    dsimp only at hq6 ⊢
    (refine Qk (iadd (by omega) (by omega)) rfl rfl rfl rfl ?_; refine Qk (iadd (by omega) (by omega)) rfl rfl rfl rfl ?_; refine Qv rfl rfl rfl ?_; refine Qj (hK _ _ (Qz (Qw ?_))); clear hK K)
    refine ZU (α := Int × Nat) (fun x => 0 ≤ x.1 ∧ x.1 ≤ pp.length) (fun _ => [(0, .own 0), (1, .ct (intC most)), (2, .ct (boolC st)), (7, .own 1), (8, .own 2), (9, .ct (intC (tm + (1 + dt)))), (10, .ct (intC id)), (11, .own 3), (12, .ct (intC k)), (14, .own 4), (16, .ct (adrsC pp)), (17, .own 5)])
      (fun x => [(5, .box 35 [intC va, intC 0, intC (nu.getD va.toNat 0), intC (tm + (1 + dt)), adrF ds, intC pr, intC f, intC (1 + x.1), boolC false, boolC false, intC 0, adrF 0, intC 0, intC 0, intC 0, intC 0, intC 0]), (4, .box 113 [intC va, adrF ds, intC pr, pthsC ps, adrF la]), (3, .box 117 (ints nu)), (2, .row 35 17 (rss out)), (1, .row 113 5 (nts ns')), (0, .box 78 (codes bs x.2))]) (fun x hx => ?_) (fun KK hN => ?_)
    rotate_left
    · refine St.drawR (by with_reducible exact mixed) 24 (.p 0 (.p 1 (.p 3 (.p 4 (.p 8 (.p 9 (.p 10 (.p 12 (.p 13 (.p 15 (.p 16 (.p 17 (.p 18 (.p 19 (.f 2 (.f 5 (.p 6 (.f 7 (.f 11 (.f 14 (.fork 20 (.p 21 (.p 22 (.m 23 (.a 24 .done)))) 23 (.m 20 (.p 21 (.p 22 (.a 24 .done))))))))))))))))))))))))) (by kernel_rfl) (fun K hK => ?_)
      refine Zj ?_
      (refine QV rfl rfl rfl (by with_reducible first | exact fH0 | exact fH1 | exact fH2 | exact fS0 | exact fS1 | exact fS2 | exact fS3 | exact fS4 | exact fS5 | exact fS6 | exact fS7 | exact fS8 | exact fS9 | exact fS10 | exact fS11) rfl ?_)
      refine Qj ?_
      refine Zj ?_
      (refine X7 rfl rfl (by with_reducible first | exact fR0t | exact fR1t | exact fR2t | exact fN0 | exact fN1 | exact fN4) rfl ?_)
      refine Qj ?_
      refine Zj ?_
      (refine QV rfl rfl rfl (by with_reducible first | exact fH0 | exact fH1 | exact fH2 | exact fS0 | exact fS1 | exact fS2 | exact fS3 | exact fS4 | exact fS5 | exact fS6 | exact fS7 | exact fS8 | exact fS9 | exact fS10 | exact fS11) rfl ?_)
      refine Qj ?_
      refine Zj ?_
      (refine X7 rfl rfl (by with_reducible first | exact fR0t | exact fR1t | exact fR2t | exact fN0 | exact fN1 | exact fN4) rfl ?_)
      refine Qj ?_
      refine Zj ?_
      (refine Qx rfl rfl rfl ?_)
      refine Qj ?_
      refine Zj ?_
      (refine QV rfl rfl rfl (by with_reducible first | exact fH0 | exact fH1 | exact fH2 | exact fS0 | exact fS1 | exact fS2 | exact fS3 | exact fS4 | exact fS5 | exact fS6 | exact fS7 | exact fS8 | exact fS9 | exact fS10 | exact fS11) rfl ?_)
      refine Qj ?_
      refine Zj ?_
      (refine X7 rfl rfl (by with_reducible first | exact fR0t | exact fR1t | exact fR2t | exact fN0 | exact fN1 | exact fN4) rfl ?_)
      refine Qj ?_
      refine Zj ?_
      (refine QV rfl rfl rfl (by with_reducible first | exact fH0 | exact fH1 | exact fH2 | exact fS0 | exact fS1 | exact fS2 | exact fS3 | exact fS4 | exact fS5 | exact fS6 | exact fS7 | exact fS8 | exact fS9 | exact fS10 | exact fS11) rfl ?_)
      refine Qj ?_
      refine Zj ?_
      (refine X7 rfl rfl (by with_reducible first | exact fR0t | exact fR1t | exact fR2t | exact fN0 | exact fN1 | exact fN4) rfl ?_)
      refine Qj ?_
      refine Zj ?_
      (refine Qx rfl rfl rfl ?_)
      refine Qj ?_
      refine Zj ?_
      (refine Qx rfl rfl rfl ?_)
      refine Qj ?_
      refine Zj ?_
      (refine Qx rfl rfl rfl ?_)
      refine Qj ?_
      refine Zj ?_
      (refine Qd rfl rfl (by with_reducible first | exact sAdrs.und | exact sPths.und | exact sRes.und) (List.length_map ..) rfl ?_)
      refine Qj ?_
      refine Zj ?_
      (refine Qk (iadd (by omega) (by omega)) rfl rfl rfl rfl ?_)
      refine Qj ?_
      refine Fin.rfA rfl rfl rfl rfl rfl (by with_reducible exact lInt) (Zh rfl) rfl ?_
      refine Fin.rfA rfl rfl rfl rfl rfl (by with_reducible exact lInt) (Zh rfl) rfl ?_
      refine Zj ?_
      refine Ops.idxO (j := va) rfl rfl rfl rfl (by with_reducible exact aNums) (by omega) (by omega) rfl ?_
      refine Qj ?_
      refine Fin.rfA (c := intC (nu.getD va.toNat 0)) rfl rfl rfl rfl (by rw [Nat.mul_one]; exact ints_get (by omega)) (by with_reducible exact lInt) (Zh rfl) rfl ?_
      refine Fin.rfA rfl rfl rfl rfl rfl (by with_reducible exact Qa) (Zh rfl) rfl ?_
      refine Fin.rfA rfl rfl rfl rfl rfl (by with_reducible exact lInt) (Zh rfl) rfl ?_
      refine Fin.rfork ?_ ?_
      · refine Fin.rmB rfl goNext (Zd bs q4 (pp.length + 1) (by omega) (by omega) hb) rfl rfl rfl rfl rfl (fun y hy0 => ?_)
        obtain ⟨t, q5⟩ := y
        dsimp only at hy0 ⊢
        refine Zj ?_
        (refine Qk (iadd (by omega) (by omega)) rfl rfl rfl rfl ?_)
        refine Qj ?_
        refine Zj ?_
        refine Qs rfl (by with_reducible exact bRes) rfl (.one rfl rfl rfl rfl (.one rfl rfl rfl rfl (.one rfl rfl rfl rfl (.one rfl rfl rfl rfl (.one rfl rfl rfl rfl (.one rfl rfl rfl rfl (.one rfl rfl rfl rfl (.one rfl rfl rfl rfl .nil)))))))) rfl ?_
        refine Qj ?_
        refine Fin.rm ?_
        refine Qg 5 rfl rfl (by with_reducible exact zvRes) rfl rfl rfl ?_
        refine Qj ?_
        refine Fin.ra ?_
        refine Qc 17 rfl rfl rfl rfl rfl (by with_reducible exact szRes) rfl rfl ?_
        refine Qj ?_
        refine Fin.rdone ?_
        exact hK _ _ (Xq hN (t, q5) ⟨hy0.1, by dsimp only; omega⟩ (by exact QX rfl ⟨rfl, rfl, rfl, rfl, rfl, rfl, rfl, rfl, rfl, rfl, rfl, rfl, trivial⟩))
      · refine Fin.rm ?_
        refine Qg 5 rfl rfl (by with_reducible exact zvRes) rfl rfl rfl ?_
        refine Qj ?_
        refine Fin.rmB rfl goNext (Zd bs q4 (pp.length + 1) (by omega) (by omega) hb) rfl rfl rfl rfl rfl (fun y hy0 => ?_)
        obtain ⟨t, q5⟩ := y
        dsimp only at hy0 ⊢
        refine Zj ?_
        (refine Qk (iadd (by omega) (by omega)) rfl rfl rfl rfl ?_)
        refine Qj ?_
        refine Zj ?_
        refine Qs rfl (by with_reducible exact bRes) rfl (.one rfl rfl rfl rfl (.one rfl rfl rfl rfl (.one rfl rfl rfl rfl (.one rfl rfl rfl rfl (.one rfl rfl rfl rfl (.one rfl rfl rfl rfl (.one rfl rfl rfl rfl (.one rfl rfl rfl rfl .nil)))))))) rfl ?_
        refine Qj ?_
        refine Fin.ra ?_
        refine Qc 17 rfl rfl rfl rfl rfl (by with_reducible exact szRes) rfl rfl ?_
        refine Qj ?_
        refine Fin.rdone ?_
        exact hK _ _ (Xq hN (t, q5) ⟨hy0.1, by dsimp only; omega⟩ (by exact QX rfl ⟨rfl, rfl, rfl, rfl, rfl, rfl, rfl, rfl, rfl, rfl, rfl, rfl, trivial⟩))
    obtain ⟨t, q5⟩ := x
    obtain ⟨ht0, ht1⟩ := hx
    dsimp only at ht0 ht1 ⊢
    (refine Qw (Qq fun K hK => ?_); refine QV rfl rfl rfl (by with_reducible first | exact fH0 | exact fH1 | exact fH2 | exact fS0 | exact fS1 | exact fS2 | exact fS3 | exact fS4 | exact fS5 | exact fS6 | exact fS7 | exact fS8 | exact fS9 | exact fS10 | exact fS11) rfl ?_; refine X7 rfl rfl (by with_reducible first | exact fR0t | exact fR1t | exact fR2t | exact fN0 | exact fN1 | exact fN4) rfl ?_; refine QJ rfl rfl rfl rfl rfl (by with_reducible first | exact lInt | exact Qa | exact lAdrs | exact lPths | exact Q5) rfl ?_)
    refine Ops.idxO (j := va) rfl rfl rfl rfl (by with_reducible exact aNums) (by omega) (by omega) rfl ?_
    refine QJ rfl rfl rfl rfl (by rw [Nat.mul_one]; exact ints_get (by omega)) (by with_reducible exact lInt) rfl ?_
    refine Qk (addW _ _) rfl rfl rfl rfl ?_
    refine Ops.idxO (j := va) rfl rfl rfl rfl (by with_reducible exact aNums) (by omega) (by omega) rfl ?_
    refine X6 rfl rfl rfl rfl rfl (by with_reducible exact zInt) (by show va.toNat * 1 < (ints nu).length; rw [ints_length]; omega) ?_
    simp only [Ent.setc, ints_set, Nat.mul_one]
    (refine Qj (hK _ _ (Qz (Qw ?_))); clear hK K)
    refine St.drawR (by with_reducible exact mixed) 10 (.p 0 (.p 2 (.p 6 (.f 1 (.f 3 (.p 4 (.p 5 (.m 7 (.p 8 (.p 9 (.a 10 .done))))))))))) (by kernel_rfl) (fun K hK => ?_)
    refine Zj ?_
    (refine QV rfl rfl rfl (by with_reducible first | exact fH0 | exact fH1 | exact fH2 | exact fS0 | exact fS1 | exact fS2 | exact fS3 | exact fS4 | exact fS5 | exact fS6 | exact fS7 | exact fS8 | exact fS9 | exact fS10 | exact fS11) rfl ?_)
    refine Qj ?_
    refine Zj ?_
    (refine QV rfl rfl rfl (by with_reducible first | exact fH0 | exact fH1 | exact fH2 | exact fS0 | exact fS1 | exact fS2 | exact fS3 | exact fS4 | exact fS5 | exact fS6 | exact fS7 | exact fS8 | exact fS9 | exact fS10 | exact fS11) rfl ?_)
    refine Qj ?_
    refine Zj ?_
    (refine Qx rfl rfl rfl ?_)
    refine Qj ?_
    refine Fin.rfA (c := intC (tm + (1 + dt))) rfl rfl rfl rfl rfl (by with_reducible exact lInt) (Zh rfl) rfl ?_
    refine Fin.rfA (c := intC (1 + t)) rfl rfl rfl rfl rfl (by with_reducible exact lInt) (Zh rfl) rfl ?_
    refine Zj ?_
    (refine Qk (imul (by omega) (by omega)) rfl rfl rfl rfl ?_)
    refine Qj ?_
    refine Zj ?_
    (refine Qk (iadd (by omega) (by omega)) rfl rfl rfl rfl ?_)
    refine Qj ?_
    refine Fin.rmB rfl goNext (Zd bs q5 4 (by decide) (by decide) hb) rfl rfl rfl rfl rfl (fun y hy0 => ?_)
    obtain ⟨dd, q6⟩ := y
    dsimp only at hy0 ⊢
    refine Zj ?_
    (refine Qk (iadd (by omega) (by omega)) rfl rfl rfl rfl ?_)
    refine Qj ?_
    refine Zj ?_
    (refine QV rfl rfl rfl (by with_reducible first | exact fH0 | exact fH1 | exact fH2 | exact fS0 | exact fS1 | exact fS2 | exact fS3 | exact fS4 | exact fS5 | exact fS6 | exact fS7 | exact fS8 | exact fS9 | exact fS10 | exact fS11) rfl ?_)
    refine Qj ?_
    refine Fin.ra ?_
    refine X6 rfl rfl rfl rfl rfl (by with_reducible exact zInt) (Nat.le_of_ble_eq_true rfl) ?_
    refine Qj ?_
    refine Fin.rdone ?_
    refine hK _ _ ?_
    clear hK K
    generalize hbk : tm + (1 + dt) + 5 * (1 + t) + dd = bk
    generalize hnu : nu.set va.toNat (IntKind.i64.wrap (nu.getD va.toNat 0 + 1)) = nu2
    have hnl2 : nu2.length = 16 := by rw [← hnu, List.length_set]; exact hnl
    have hnb2 : ∀ x ∈ nu2, 0 ≤ x ∧ x ≤ ((out.length + 1 : Nat) : Int) := by
      rw [← hnu, wrap64_small (by omega) (by omega)]
      exact mem_setG (fun y hy => by have := hnb y hy; omega) (by omega) _
    have hnum := fun (r : Rs) (a : r.va = va) (b : r.nu = nu.getD va.toNat 0) => numbers (r := r) hnl v0 v1 a b hlt9 hun
    rw [wrap64_small (by omega) (by omega)] at hnu
    rw [hnu] at hnum
    clear hnu
    (refine Qz (Qw (Qq fun K hK => ?_)); refine Qx rfl rfl rfl ?_; refine Qx rfl rfl rfl ?_)
    refine Xw goNext (Zd bs q6 5 (by decide) (by decide) hb) rfl rfl rfl rfl rfl (fun q hq7 => ?_)
    obtain ⟨di, q7⟩ := q
    dsimp only at hq7 ⊢
    (refine Qk (iadd (by omega) (by omega)) rfl rfl rfl rfl ?_; refine Qk (iadd (by omega) (by omega)) rfl rfl rfl rfl ?_; refine Qv rfl rfl rfl ?_; refine Qj (hK _ _ (Qz (Qw ?_))); clear hK K; refine Qq (fun K hK => ?_); refine QV rfl rfl rfl (by with_reducible first | exact fH0 | exact fH1 | exact fH2 | exact fS0 | exact fS1 | exact fS2 | exact fS3 | exact fS4 | exact fS5 | exact fS6 | exact fS7 | exact fS8 | exact fS9 | exact fS10 | exact fS11) rfl ?_; refine QJ rfl rfl rfl rfl rfl (by with_reducible first | exact lInt | exact Qa | exact lAdrs | exact lPths | exact Q5) rfl ?_; refine Qv rfl rfl rfl ?_; refine Qj (hK _ _ (Qz (Qw (Qw ?_)))); clear hK K; refine Qq (fun K hK => ?_); refine QV rfl rfl rfl (by with_reducible first | exact fH0 | exact fH1 | exact fH2 | exact fS0 | exact fS1 | exact fS2 | exact fS3 | exact fS4 | exact fS5 | exact fS6 | exact fS7 | exact fS8 | exact fS9 | exact fS10 | exact fS11) rfl ?_; refine QJ rfl rfl rfl rfl rfl (by with_reducible first | exact lInt | exact Qa | exact lAdrs | exact lPths | exact Q5) rfl ?_; refine Qx rfl rfl rfl ?_; refine Qd rfl rfl (by with_reducible first | exact sAdrs.und | exact sPths.und | exact sRes.und) (List.length_map ..) rfl ?_; refine Qk ileq rfl rfl rfl rfl ?_; refine Qj (hK _ _ (Qz ?_)); clear hK K)
    refine ZU (α := Ad) (fun _ => True) (fun a => [(0, .own 0), (1, .ct (intC most)), (2, .ct (boolC st)), (7, .own 1), (8, .own 2), (10, .ct (intC (id + (1 + di)))), (11, .own 3), (12, .ct (intC k)), (17, .own 5), (16, .ct (adrsC pp)), (18, .ct (adrF a))])
      (fun _ => [(5, .box 35 [intC va, intC 0, intC (nu.getD va.toNat 0), intC (tm + (1 + dt)), adrF ds, intC pr, intC f, intC (1 + t), boolC false, boolC false, intC bk, adrF 0, intC 0, intC 0, intC 0, intC 0, intC 0]), (4, .box 113 [intC va, adrF ds, intC pr, pthsC ps, adrF la]), (3, .box 117 (ints nu2)), (2, .row 35 17 (rss out)), (1, .row 113 5 (nts ns')), (0, .box 78 (codes bs q7))]) (fun a _ => ?_) (fun KK hN => ?_)
    rotate_left
    · refine Q2 rfl (fun h7 => ?_) (fun h7 => ?_)
      · (refine Qq (fun K hK => ?_); refine Qx rfl rfl rfl ?_; refine QV rfl rfl rfl (by with_reducible first | exact fH0 | exact fH1 | exact fH2 | exact fS0 | exact fS1 | exact fS2 | exact fS3 | exact fS4 | exact fS5 | exact fS6 | exact fS7 | exact fS8 | exact fS9 | exact fS10 | exact fS11) rfl ?_; refine QJ rfl rfl rfl rfl rfl (by with_reducible first | exact lInt | exact Qa | exact lAdrs | exact lPths | exact Q5) rfl ?_; refine Qk (isub (by omega) (by omega)) rfl rfl rfl rfl ?_; refine Ql rfl rfl rfl (by with_reducible exact sAdrs) (by omega) (adrs_at (by omega) (by omega)) rfl ?_; refine XQ rfl rfl rfl (by with_reducible first | exact Qa | exact lAdrs) rfl ?_; refine Qv rfl rfl rfl ?_; refine Qj (hK _ _ ?_); clear hK K)
        exact Xq hN _ trivial (by exact QX rfl ⟨rfl, rfl, rfl, rfl, rfl, rfl, rfl, rfl, rfl, rfl, rfl, trivial⟩)
      · (refine Q1 ?_)
        exact Xq hN la trivial (by exact QX rfl ⟨rfl, rfl, rfl, rfl, rfl, rfl, rfl, rfl, rfl, rfl, rfl, trivial⟩)
    refine Qw ?_
    refine ZU (α := Rs × Nat) (fun x => x.1.bk = bk ∧ okR x.1 = true ∧ x.1.va = va ∧ x.1.nu = nu.getD va.toNat 0) (fun _ => [(0, .own 0), (1, .ct (intC most)), (2, .ct (boolC st)), (7, .own 1), (8, .own 2), (10, .ct (intC (id + (1 + di)))), (11, .own 3), (12, .ct (intC k)), (17, .own 5)])
      (fun x => [(5, .box 35 (rsCs x.1)), (4, .box 113 [intC va, adrF ds, intC pr, pthsC ps, adrF la]), (3, .box 117 (ints nu2)), (2, .row 35 17 (rss out)), (1, .row 113 5 (nts ns')), (0, .box 78 (codes bs x.2))]) (fun x hx => ?_) (fun KK hN => ?_)
    rotate_left
    · (refine Qw (Qq fun K hK => ?_); refine Qx rfl rfl rfl ?_; refine Qk ineq rfl rfl rfl rfl ?_; refine Qx rfl rfl rfl ?_)
      refine X5 138 rfl (fun h8 => ?_) (fun h8 => ?_)
      · have ha : a ≠ 0 := fun h => of_decide_eq_true h8 (by rw [h]; rfl)
        (refine Qx rfl rfl rfl ?_)
        refine Xw goBool (BoolB_ok bs q7 5 (by decide) (by decide) hb) rfl rfl rfl rfl rfl (fun q _ => ?_)
        obtain ⟨b3, q8⟩ := q
        dsimp only
        (refine Qm rfl rfl rfl ?_; refine QZ rfl rfl rfl rfl ?_; refine Qj (hK _ _ (Qz ?_)); clear hK K)
        refine Xy rfl (fun _ => ?_) (fun _ => ?_)
        · (refine Qw (Qq fun K hK => ?_); refine Qx rfl rfl rfl ?_)
          refine Xw goBool (BoolB_ok bs q8 30 (by decide) (by decide) hb) rfl rfl rfl rfl rfl (fun q _ => ?_)
          obtain ⟨b4, q9⟩ := q
          dsimp only
          (refine QV rfl rfl rfl (by with_reducible first | exact fH0 | exact fH1 | exact fH2 | exact fS0 | exact fS1 | exact fS2 | exact fS3 | exact fS4 | exact fS5 | exact fS6 | exact fS7 | exact fS8 | exact fS9 | exact fS10 | exact fS11) rfl ?_; refine X6 rfl rfl rfl rfl rfl (by with_reducible first | exact zAddr | exact zInt | exact zPths | exact zBool1) (Nat.le_of_ble_eq_true rfl) ?_; refine QV rfl rfl rfl (by with_reducible first | exact fH0 | exact fH1 | exact fH2 | exact fS0 | exact fS1 | exact fS2 | exact fS3 | exact fS4 | exact fS5 | exact fS6 | exact fS7 | exact fS8 | exact fS9 | exact fS10 | exact fS11) rfl ?_; refine X6 rfl rfl rfl rfl rfl (by with_reducible first | exact zAddr | exact zInt | exact zPths | exact zBool1) (Nat.le_of_ble_eq_true rfl) ?_; refine Qj (hK _ _ (Qz (Qw ?_))); clear hK K; refine Qq (fun K hK => ?_); refine Qx rfl rfl rfl ?_; refine Qx rfl rfl rfl ?_)
          refine Qk (irem (p := id + (1 + di)) (by omega) (by omega)) rfl rfl rfl rfl ?_
          have hidr : 0 ≤ (id + (1 + di)) % 65536 ∧ (id + (1 + di)) % 65536 ≤ 65535 := by omega
          generalize (id + (1 + di)) % 65536 = idr at hidr ⊢
          refine Qs rfl (by with_reducible exact bAns) rfl (.one rfl rfl rfl rfl (.one rfl rfl rfl rfl (.one rfl rfl rfl rfl (.one rfl rfl rfl rfl (.one rfl rfl rfl rfl .nil))))) rfl ?_
          (refine QV rfl rfl rfl (by with_reducible first | exact fH0 | exact fH1 | exact fH2 | exact fS0 | exact fS1 | exact fS2 | exact fS3 | exact fS4 | exact fS5 | exact fS6 | exact fS7 | exact fS8 | exact fS9 | exact fS10 | exact fS11) rfl ?_)
          refine Ops.stNA rfl rfl rfl rfl rfl (by exact szAns) (Nat.le_of_ble_eq_true rfl) ?_
          refine Qj (hK _ _ ?_)
          clear hK K
          refine Qz ?_
          refine Qw ?_
          refine ZU (α := Int × Nat) (fun x => 1 ≤ x.1 ∧ x.1 ≤ 5) (fun _ => [(0, .own 0), (1, .ct (intC most)), (2, .ct (boolC st)), (7, .own 1), (8, .own 2), (10, .ct (intC (id + (1 + di)))), (11, .own 3), (12, .ct (intC k)), (17, .own 5), (16, .ct (adrsC pp))])
            (fun x => [(5, .box 35 [intC va, intC 0, intC (nu.getD va.toNat 0), intC (tm + (1 + dt)), adrF ds, intC pr, intC f, intC (1 + t), boolC true, boolC b4, intC bk, adrF a, intC x.1, intC 0, intC 60, intC idr, intC 1]), (4, .box 113 [intC va, adrF ds, intC pr, pthsC ps, adrF la]), (3, .box 117 (ints nu2)), (2, .row 35 17 (rss out)), (1, .row 113 5 (nts ns')), (0, .box 78 (codes bs x.2))]) (fun x hki => ?_) (fun KK2 hN2 => ?_)
          rotate_left
          · (refine Qw (Qq fun K hK => ?_); refine QV rfl rfl rfl (by with_reducible first | exact fH0 | exact fH1 | exact fH2 | exact fS0 | exact fS1 | exact fS2 | exact fS3 | exact fS4 | exact fS5 | exact fS6 | exact fS7 | exact fS8 | exact fS9 | exact fS10 | exact fS11) rfl ?_; refine QJ rfl rfl rfl rfl rfl (by with_reducible first | exact lInt | exact Qa | exact lAdrs | exact lPths | exact Q5) rfl ?_; refine Qx rfl rfl rfl ?_; refine Qd rfl rfl (by with_reducible first | exact sAdrs.und | exact sPths.und | exact sRes.und) (List.length_map ..) rfl ?_; refine Qk igtr rfl rfl rfl rfl ?_; refine Qj (hK _ _ (Qz ?_)); clear hK K)
            refine Q2 rfl (fun h9 => ?_) (fun h9 => ?_)
            · (refine Qq (fun K hK => ?_); refine Qx rfl rfl rfl ?_)
              refine Ops.litI [3, 3, 2] rfl rfl (by with_reducible exact sInts) rfl ⟨rfl, rfl, rfl, rfl, rfl, rfl, trivial⟩ (by decide) rfl ?_
              refine Xw goPick (Pick_ok bs q9 [3, 3, 2] (by decide) (by decide) hb) rfl rfl rfl rfl rfl (fun q hq8 => ?_)
              obtain ⟨ki, q10⟩ := q
              have hki : 1 ≤ ki ∧ ki ≤ 5 := by simp only [List.mem_cons, List.not_mem_nil, or_false] at hq8; omega
              dsimp only
              (refine QV rfl rfl rfl (by with_reducible first | exact fH0 | exact fH1 | exact fH2 | exact fS0 | exact fS1 | exact fS2 | exact fS3 | exact fS4 | exact fS5 | exact fS6 | exact fS7 | exact fS8 | exact fS9 | exact fS10 | exact fS11) rfl ?_; refine X7 rfl rfl (by with_reducible first | exact fR0t | exact fR1t | exact fR2t | exact fN0 | exact fN1 | exact fN4) rfl ?_; refine X6 rfl rfl rfl rfl rfl (by with_reducible first | exact zAddr | exact zInt | exact zPths | exact zBool1) (Nat.le_of_ble_eq_true rfl) ?_; refine Qj (hK _ _ ?_); clear hK K)
              exact Xq hN2 (ki, q10) hki (by exact QX rfl ⟨rfl, rfl, rfl, rfl, rfl, rfl, rfl, rfl, rfl, rfl, trivial⟩)
            · (refine Q1 ?_)
              exact Xq hN2 (1, q9) ⟨Int.le_refl _, by show (1 : Int) ≤ 5; decide⟩ (by exact QX rfl ⟨rfl, rfl, rfl, rfl, rfl, rfl, rfl, rfl, rfl, rfl, trivial⟩)
          obtain ⟨ki, q10⟩ := x
          dsimp only at hki ⊢
          (refine Qw (Qq fun K hK => ?_); refine Qx rfl rfl rfl ?_)
          refine Xw goBool (BoolB_ok bs q10 5 (by decide) (by decide) hb) rfl rfl rfl rfl rfl (fun q _ => ?_)
          obtain ⟨b5, q11⟩ := q
          dsimp only
          (refine Qj (hK _ _ (Qz ?_)); clear hK K)
          refine Xy rfl (fun _ => ?_) (fun _ => ?_)
          · (refine Qq (fun K hK => ?_); refine Qx rfl rfl rfl ?_)
            refine Xw goNext (Zd bs q11 65536 (by decide) (by decide) hb) rfl rfl rfl rfl rfl (fun q hq9 => ?_)
            obtain ⟨id2, q12⟩ := q
            dsimp only at hq9 ⊢
            (refine QV rfl rfl rfl (by with_reducible first | exact fH0 | exact fH1 | exact fH2 | exact fS0 | exact fS1 | exact fS2 | exact fS3 | exact fS4 | exact fS5 | exact fS6 | exact fS7 | exact fS8 | exact fS9 | exact fS10 | exact fS11) rfl ?_; refine X7 rfl rfl (by with_reducible first | exact fR0t | exact fR1t | exact fR2t | exact fN0 | exact fN1 | exact fN4) rfl ?_; refine X6 rfl rfl rfl rfl rfl (by with_reducible first | exact zAddr | exact zInt | exact zPths | exact zBool1) (Nat.le_of_ble_eq_true rfl) ?_; refine Qj (hK _ _ ?_); clear hK K)
            exact Xq hN (⟨va, 0, nu.getD va.toNat 0, tm + (1 + dt), ds, pr, f, 1 + t, true, b4, bk, a, ki, 0, 60, id2, 1⟩, q12) ⟨rfl, okR_live ⟨v0, by omega⟩ ⟨hnv.1, by omega⟩ ⟨by omega, by omega, by omega⟩ ⟨by omega, by omega⟩ ⟨by omega, by omega⟩ p0 d0 ha hki ⟨hq9.1, by omega⟩, rfl, rfl⟩ (by exact QX rfl ⟨rfl, rfl, rfl, rfl, rfl, rfl, rfl, rfl, rfl, trivial⟩)
          · (refine Q1 ?_)
            exact Xq hN (⟨va, 0, nu.getD va.toNat 0, tm + (1 + dt), ds, pr, f, 1 + t, true, b4, bk, a, ki, 0, 60, idr, 1⟩, q11) ⟨rfl, okR_live ⟨v0, by omega⟩ ⟨hnv.1, by omega⟩ ⟨by omega, by omega, by omega⟩ ⟨by omega, by omega⟩ ⟨by omega, by omega⟩ p0 d0 ha hki hidr, rfl, rfl⟩ (by exact QX rfl ⟨rfl, rfl, rfl, rfl, rfl, rfl, rfl, rfl, rfl, trivial⟩)
        · (refine Q1 ?_)
          exact Xq hN (⟨va, 0, nu.getD va.toNat 0, tm + (1 + dt), ds, pr, f, 1 + t, false, false, bk, 0, 0, 0, 0, 0, 0⟩, q8) ⟨rfl, okR_dead ⟨v0, by omega⟩ ⟨hnv.1, by omega⟩ ⟨by omega, by omega, by omega⟩ ⟨by omega, by omega⟩ ⟨by omega, by omega⟩ p0 d0, rfl, rfl⟩ (by exact QX rfl ⟨rfl, rfl, rfl, rfl, rfl, rfl, rfl, rfl, rfl, trivial⟩)
      · (refine Qy rfl rfl rfl ?_; refine Qy rfl rfl rfl ?_; refine Qy rfl rfl rfl ?_; refine QU rfl rfl rfl rfl ?_; refine Qj (hK _ _ (Qz (Xv rfl (Q1 ?_)))); clear hK K)
        exact Xq hN (⟨va, 0, nu.getD va.toNat 0, tm + (1 + dt), ds, pr, f, 1 + t, false, false, bk, 0, 0, 0, 0, 0, 0⟩, q7) ⟨rfl, okR_dead ⟨v0, by omega⟩ ⟨hnv.1, by omega⟩ ⟨by omega, by omega, by omega⟩ ⟨by omega, by omega⟩ ⟨by omega, by omega⟩ p0 d0, rfl, rfl⟩ (by exact QX rfl ⟨rfl, rfl, rfl, rfl, rfl, rfl, rfl, rfl, rfl, trivial⟩)
    obtain ⟨r, q8⟩ := x
    obtain ⟨hx, hrk, hva9, hnu9⟩ := hx
    dsimp only at hx hrk hva9 hnu9 ⊢
    obtain ⟨hn1', hn2'⟩ := hnum r hva9 hnu9
    (refine Qw (Qq fun K hK => ?_); refine QV rfl rfl rfl (by with_reducible first | exact fH0 | exact fH1 | exact fH2 | exact fS0 | exact fS1 | exact fS2 | exact fS3 | exact fS4 | exact fS5 | exact fS6 | exact fS7 | exact fS8 | exact fS9 | exact fS10 | exact fS11) rfl ?_; refine QJ rfl rfl rfl rfl rfl (by with_reducible first | exact lInt | exact Qa | exact lAdrs | exact lPths | exact Q5) rfl ?_; refine Qv rfl rfl rfl ?_; refine Qj (hK _ _ (Qz ?_)); clear hK K; refine Qq (fun K hK => ?_); refine Qx rfl rfl rfl ?_; refine Q7 (n := 17) rfl rfl rfl rfl rfl (by with_reducible exact lRes) rfl ?_)
    refine X4 (n := 17) rfl rfl (by with_reducible exact sRes) rfl rfl (by decide) rfl ?_
    refine Qt out.length (rss (out ++ [r])) rfl rfl rfl rfl (by with_reducible exact sRes) (Xt out) rfl (by omega) (by omega) (rss_snocD out r) rfl ?_
    (refine Qv rfl rfl rfl ?_; refine Qj (hK _ _ (Qz ?_)); clear hK K; refine Qq (fun K hK => ?_); refine Qx rfl rfl rfl ?_; refine Qk (isub (by omega) (by omega)) rfl rfl rfl rfl ?_; refine Qv rfl rfl rfl ?_; refine Qj (hK _ _ (Q3 ?_)); clear hK K)
    refine Qn 5 ?_
    refine Qn 4 ?_
    refine Q9 ⟨k - 1, ns', r.bk, id + (1 + di), nu2, out ++ [r], q8⟩ (by dsimp only; omega) ⟨by dsimp only; omega, by simp; omega, by dsimp only; omega, by dsimp only; omega, hnt', by dsimp only; omega, by dsimp only; omega, by dsimp only; omega, by dsimp only; omega, hnl2, by dsimp only; rw [List.length_append]; exact hnb2, mem_snocG hok hrk, hn1', hn2'⟩ (by exact QX rfl ⟨rfl, rfl, rfl, rfl, rfl, rfl, rfl, rfl, rfl, trivial⟩)
  · refine St.frz 2 _ rfl (Xn _ _) (Yk rfl) ?_
    (refine Qp (Qz (Qw (Qq fun K hK => ?_))); refine Qx rfl rfl rfl ?_; refine Qv rfl rfl rfl ?_; refine Qj (hK _ _ (Qz (Q0 ?_))); clear hK K)
    refine Yz (out, q0) [_] rfl (Qu rfl QQ) rfl rfl ⟨by dsimp only; omega, hok, hun⟩
end Go.Proofs.YtlkdkbdgnjcopaaGreat
namespace Go.Proofs.YtlkdkbdgnjcopaaGreat
open Go.Own Go.Limbs
attribute [local irreducible] St Ops Go.Own.Fin Ok OkB OkN OkT OkL OkF OkM
abbrev Stm := Tk × Int
abbrev stmI (s : Stm) : List Int := [s.1.va, (s.1.ds.val : Int), s.1.pr, s.2]
abbrev stmE (s : Stm) : Value := Go.Own.encI ([.i64, .u32, .i64] ++ [.i64]) (stmI s)
abbrev stmV (s : Stm) : List Value := [.int .i64 s.1.va, .int .u32 (s.1.ds.val : Int), .int .i64 s.1.pr, .int .i64 s.2]
abbrev stmCs (s : Stm) : List CT := [intC s.1.va, adrF s.1.ds, intC s.1.pr, intC s.2]
theorem eqStm : EqF Tryz.prog 145 86 [.i64, .u32, .i64] [.i64] := ⟨by kernel_rfl, by kernel_rfl, by kernel_rfl, by kernel_rfl, by kernel_rfl, by kernel_rfl, by kernel_rfl, by kernel_rfl⟩
theorem stmI_inj (a b : Stm) (h : stmI a = stmI b) : a = b := by
  obtain ⟨⟨a1, a2, a3⟩, a4⟩ := a
  obtain ⟨⟨b1, b2, b3⟩, b4⟩ := b
  simp only [List.cons.injEq, and_true, Int.ofNat_inj, Fin.val_inj] at h
  obtain ⟨h1, h2, h3, h4⟩ := h
  rw [h1, h2, h3, h4]
theorem keyStm : KeyT Tryz.prog 145 stmE := eqStm.flat.key stmI (fun _ => rfl) stmI_inj
theorem lStm : LdN Tryz.prog 145 4 := LdN.of _ Tryz.underlying145 rfl (by kernel_rfl)
theorem szStm : (Tryz.prog.info? 145).map (·.size) = some 4 := by kernel_rfl
theorem zvStm : (Tryz.prog.info? 145).map (·.zero) = some (some (.agg #[.int .i64 0, .int .u32 0, .int .i64 0, .int .i64 0])) := by kernel_rfl
theorem bStm : bInfo Tryz.prog 145 = some (.agg #[.int .i64 0, .int .u32 0, .int .i64 0, .int .i64 0], [(0, some 3), (3, some 1)]) := by kernel_rfl
theorem Xm : fldInfo Tryz.prog 145 0 = some (0, some 3) := by kernel_rfl
theorem uMOwn : Tryz.prog.underlying 91 = some (.map 86 29) := Tryz.underlying91
theorem uMKnown : Tryz.prog.underlying 92 = some (.map 145 28) := Tryz.underlying92
theorem lMOwn : Ld1 Tryz.prog 91 := Ld1.of _ Tryz.underlying91 rfl
theorem lMKnown : Ld1 Tryz.prog 92 := Ld1.of _ Tryz.underlying92 rfl
theorem Yq : LdN Tryz.prog 94 2 := LdN.of _ Tryz.underlying94 rfl (by kernel_rfl)
theorem szTrav : (Tryz.prog.info? 94).map (·.size) = some 2 := by kernel_rfl
theorem zvTrav : (Tryz.prog.info? 94).map (·.zero) = some (some (.agg #[.map none, .map none])) := by kernel_rfl
theorem bTrav : bInfo Tryz.prog 94 = some (.agg #[.map none, .map none], [(0, some 1), (1, some 1)]) := by kernel_rfl
theorem X1 : fldInfo Tryz.prog 94 0 = some (0, some 1) := by kernel_rfl
theorem X0 : fldInfo Tryz.prog 94 1 = some (1, some 1) := by kernel_rfl
theorem z0Rss (w : World) : (zeroValue 29).run Tryz.prog w = .ok (.slice none 0 0) w := Xc (by kernel_rfl) w
theorem z0Ads (w : World) : (zeroValue 28).run Tryz.prog w = .ok (.slice none 0 0) w := Xc (by kernel_rfl) w
abbrev tkE (t : Tk) : Value := Go.Own.encI [.i64, .u32, .i64] (tkI t)
abbrev tkVs (t : Tk) : List Value := [.int .i64 t.va, .int .u32 (t.ds.val : Int), .int .i64 t.pr]
abbrev OwM := List (Tk × List Rs)
def owF (l : List Rs) : OwM := (trsF l).foldl (fun m t => ins m t (ofF l t)) []
abbrev owM (m : OwM) : List (Value × CT) := kvs tkE rssC m
abbrev adsC (l : List (Fin 4294967296)) : CT := .fr (sliceT 1 (l.map fun x => [adrF x]))
abbrev KnM := List (Stm × List (Fin 4294967296))
abbrev knM (m : KnM) : List (Value × CT) := kvs stmE adsC m
abbrev travC (om : OwM) (v : Value) : CT := .fr (aggT [.fr (mapT (owM om)), .ex v])
theorem owF_look (l : List Rs) (t : Tk) : (look1 (owF l) t).getD [] = ofF l t := by
  have key : ∀ (q : List Tk) (m : OwM), look1 (q.foldl (fun m t => ins m t (ofF l t)) m) t = if t ∈ q then some (ofF l t) else look1 m t := by
    intro q
    induction q with
    | nil => intro m; rw [if_neg (by simp)]; rfl
    | cons x q ih =>
      intro m
      rw [List.foldl_cons, ih, ZY]
      by_cases h : t ∈ q
      · rw [if_pos h, if_pos (List.mem_cons_of_mem _ h)]
      · rw [if_neg h]
        by_cases e : t = x
        · subst e; rw [if_pos rfl, if_pos (List.mem_cons_self ..)]
        · rw [if_neg e, if_neg (fun hm => (List.mem_cons.1 hm).elim e h)]
  unfold owF
  rw [key]
  by_cases h : t ∈ trsF l
  · rw [if_pos h]; rfl
  · rw [if_neg h]
    show [] = ofF l t
    unfold ofF
    symm
    refine List.filter_eq_nil_iff.2 fun r hr => ?_
    intro he
    refine h ?_
    have hm := ((Zt ordR (l.filter okR)).2 r).1 hr
    exact ((Zt ordT ((l.filter okR).map trOf)).2 t).2 (List.mem_map.2 ⟨r, hm, of_decide_eq_true he⟩)
def knOk (l : List Rs) (m : KnM) : Prop := ∀ s p, look1 m s = some p → p = pathF (ofF l s.1) s.2
theorem gotravel : InGo Tryz.prog 44 := InGo.of Tryz.func44 rfl (by decide)
set_option maxHeartbeats 4000000 in
theorem Travel_ok (l : List Rs) (hl : l.length ≤ 10000) : OkM Tryz.prog 44 [.ct (rssC l)] [] [] (fun v : Value => v.oneCell' = true) (fun v => .ct (travC (owF l) v)) (fun v => [(8, .mpx v (knM []))]) := by
  have hT := Traces_ok l hl
  have hO := fun t => Of_ok l t hl
  have hlen : (trsF l).length ≤ 10000 := by
    have h1 := Zn cmpT ((l.filter okR).map trOf)
    have h2 := List.length_filter_le okR l
    rw [List.length_map] at h1
    unfold trsF; omega
  unfold owF
  generalize trsF l = ts at hT hlen ⊢
  refine OkM.enter Tryz.func44 rfl _ Tryz.ntmps44 rfl (fun i hi => by cases hi) ?_
  intro S w ρ0 hbor
  (refine Qw (Qq fun K hK => ?_); refine Qg 0 rfl rfl (by with_reducible first | exact zvTrav | exact zvCn) rfl rfl rfl ?_; refine Qj (hK _ _ (Qz (Qw ?_))); clear hK K; refine Qq (fun K hK => ?_))
  refine Zp 6 rfl rfl rfl rfl rfl (fun v1 hv1 => ?_)
  refine Zp 8 rfl rfl rfl rfl rfl (fun v2 hv2 => ?_)
  refine Qs rfl (by with_reducible exact bTrav) rfl (.one rfl rfl hv1 rfl (.one rfl rfl hv2 rfl .nil)) rfl ?_
  refine Qg 1 rfl rfl (by with_reducible exact zvTrav) rfl rfl rfl ?_
  refine Qc 2 rfl rfl rfl rfl (by show (Value.oneCell' v1 && (Value.oneCell' v2 && true)) = true; rw [hv1, hv2]; rfl) (by with_reducible exact szTrav) rfl rfl ?_
  (refine Qj (hK _ _ (Qz (Qw (Qw ?_)))); clear hK K; refine Qq (fun K hK => ?_); refine Qx rfl rfl rfl ?_)
  refine Xp 3 goTraces hT rfl rfl rfl rfl rfl rfl ?_
  refine X2 3 _ rfl (tks_frozen _ _) hbor ?_
  (refine Qd rfl rfl (by with_reducible first | exact sTks.und | exact sWrs.und | exact sIks.und | exact sAdrs.und) (List.length_map ..) rfl ?_; refine Qx rfl rfl rfl ?_; refine Qj (hK _ _ (Qz (Q4 ?_))); clear hK K)
  refine Xj (α := Nat) (fun i => i ≤ ts.length)
    (fun i => [(0, .ct (rssC l)), (2, .own 0), (3, .own 1), (10, .ct (tksC ts)), (11, .ct (intC ts.length)), (12, .ct (intC i))])
    (fun i => [(1, .box 94 [.ex v1, .ex v2]), (8, .mpx v2 (knM [])), (6, .mpx v1 (owM ((ts.take i).foldl (fun m t => ins m t (ofF l t)) []))), (0, .box 94 [.ex (.map none), .ex (.map none)])])
    (fun i => ts.length - i) 0 (Nat.zero_le _) (by exact QX rfl ⟨rfl, rfl, rfl, rfl, rfl, rfl, trivial⟩) ?_
  intro i hi
  try dsimp only at hi ⊢
  (refine Qw (Qq fun K hK => ?_); refine Qk ilss rfl rfl rfl rfl ?_; refine Qj (hK _ _ (Qz (Qw ?_))); clear hK K)
  refine Q2 rfl (fun h => ?_) (fun h => ?_)
  · have e2 : (i : Int).toNat = i := Int.toNat_natCast i
    have hs := foldl_take (fun m t => ins m t (ofF l t)) ([] : OwM) (z := tk0) (l := ts) (i := i) (by omega)
    generalize (ts.take i).foldl (fun m t => ins m t (ofF l t)) ([] : OwM) = m at hs ⊢
    (refine Q1 (Qz (Qw (Q4 (Qw (Qq fun K hK => ?_))))))
    refine Ql rfl rfl rfl (by with_reducible exact sTks) (by omega) (tks_at (by omega) (by omega)) rfl ?_
    rw [e2]
    generalize ts.getD i tk0 = t at hs ⊢
    refine XW (n := 3) rfl rfl rfl (by with_reducible exact Zl) rfl rfl ?_
    refine Qg 2 rfl rfl (by with_reducible exact zvTrace) rfl rfl rfl ?_
    refine Qc 3 rfl rfl rfl rfl rfl (by with_reducible exact szTrace) rfl rfl ?_
    (refine Qj (hK _ _ (Qz ?_)); clear hK K)
    refine Xu (by with_reducible exact mixed) 6 (.p 0 (.p 3 (.f 1 (.f 2 (.f 4 (.m 5 (.a 6 .done))))))) (by kernel_rfl) (fun K hK => ?_)
    (refine QV rfl rfl rfl (by with_reducible first | exact fTk0 | exact fTk1 | exact fTk2 | exact fWr0 | exact fWr1 | exact X1 | exact X0 | exact Xm | exact fStm1 | exact fCn0 | exact fCn1 | exact fCn2 | exact fCn3 | exact fCs0 | exact fCs1) rfl ?_; refine Qx rfl rfl rfl ?_; refine QJ rfl rfl rfl rfl rfl (by with_reducible first | exact lMOwn | exact lMKnown) rfl ?_; refine Q7 (n := 3) rfl rfl rfl rfl rfl (by with_reducible exact Zl) rfl ?_; refine Q7 (n := 3) rfl rfl rfl rfl rfl (by with_reducible exact Zl) rfl ?_)
    refine Xp 3 goOf (hO t) rfl rfl rfl rfl rfl rfl ?_
    refine X2 3 _ rfl (Xn _ _) hbor ?_
    refine Xx (i := 6) (enc := tkE) (cv := rssC) t (ofF l t) rfl rfl rfl (KeyIs.agg (us := tkVs t) rfl) rfl uMOwn keyTk ?_
    (refine Qj (hK _ _ (Qz ?_)); clear hK K; refine Qq (fun K hK => ?_); refine Qk (iadd (by omega) (by omega)) rfl rfl rfl rfl ?_; refine Qx rfl rfl rfl ?_; refine Qj (hK _ _ (Q3 ?_)); clear hK K)
    refine Qn 2 ?_
    refine Q9 (i + 1) (by omega) (by omega) (by rw [hs]; exact QX rfl ⟨rfl, rfl, rfl, rfl, rfl, by simp only [Int.natCast_add]; rfl, trivial⟩)
  · have hi' : i = ts.length := by omega
    rw [hi', List.take_length]
    generalize ts.foldl (fun m t => ins m t (ofF l t)) ([] : OwM) = m
    refine St.frzM 6 1 0 rfl rfl rfl (fun q hq => .inl (hbor q hq)) ?_
    (refine Qp (Qz (Qw (Qq fun K hK => ?_))); refine Q7 (n := 2) rfl rfl rfl rfl rfl (by with_reducible first | exact Yq | exact ZK | exact lCs) rfl ?_)
    refine Qc 2 rfl rfl rfl rfl (by show (true && (Value.oneCell' v2 && true)) = true; rw [hv2]; rfl) (by with_reducible exact szTrav) rfl rfl ?_
    (refine Qj (hK _ _ (Qz (Q0 ?_))); clear hK K)
    refine Fin.retMC [1, 0] v2 [_] rfl (Qi (n := 2) rfl rfl (by with_reducible exact Yq) rfl QQ) rfl rfl (fun _ => rfl) hv2
theorem goway : InGo Tryz.prog 46 := InGo.of Tryz.func46 rfl (by decide)
theorem wayF_eq (l : List Rs) (r : Rs) : wayF l r = if usR r = false then [] else if r.tt ≤ ((pathF (ofF l (trOf r)) r.fl).length : Int) then wiresG 0 ((pathF (ofF l (trOf r)) r.fl).take r.tt.toNat) true
    else if ((pathF (ofF l (trOf r)) r.fl).length : Int) < r.tt - 1 ∨ r.an = true then [] else wiresG 0 (pathF (ofF l (trOf r)) r.fl) true := rfl
theorem knOk_ins {l : List Rs} {m : KnM} (h : knOk l m) (s : Stm) : knOk l (ins m s (pathF (ofF l s.1) s.2)) := fun x p hx => by
  rw [ZY] at hx
  split at hx
  · rename_i e; subst e; injection hx with hx; exact hx.symm
  · exact h x p hx
def prv (p : List (_root_.Fin 4294967296)) (i : Nat) : _root_.Fin 4294967296 := if i = 0 then 0 else p.getD (i - 1) 0
theorem wiresG_step {p : List (_root_.Fin 4294967296)} {i : Nat} (h : i < p.length) : wiresG (prv p i) (p.drop i) (decide (i = 0)) =
    (if p.getD i 0 ≠ 0 ∧ (i = 0 ∨ prv p i ≠ 0) then [(prv p i, p.getD i 0)] else []) ++ wiresG (prv p (i + 1)) (p.drop (i + 1)) (decide (i + 1 = 0)) := by
  have e : p.drop i = p.getD i 0 :: p.drop (i + 1) := by
    rw [List.drop_eq_getElem_cons h]; simp [List.getD_eq_getElem?_getD, List.getElem?_eq_getElem h]
  have e2 : prv p (i + 1) = p.getD i 0 := by unfold prv; rw [if_neg (by omega)]; rfl
  rw [e, e2]
  show (if p.getD i 0 ≠ 0 ∧ (decide (i = 0) = true ∨ prv p i ≠ 0) then [(prv p i, p.getD i 0)] else []) ++ _ = _
  simp only [decide_eq_true_eq]
  rfl
theorem pathF_len (l : List Rs) (fl : Int) : (pathF l fl).length ≤ 256 := pathG_len _ _ _ _
set_option maxHeartbeats 8000000 in
theorem Way_ok (l : List Rs) (hl : l.length ≤ 10000) (v : Value) (hv : v.oneCell' = true) (r : Rs) (al : KnM) (hal : knOk l al) :
    OkM Tryz.prog 46 [.ct (travC (owF l) v), .ct (rsC r)] [(8, .mpx v (knM al))] [] (fun m : KnM => knOk l m) (fun _ => .ct (wrsC (wayF l r))) (fun m => [(8, .mpx v (knM m))]) := by
  have hU := Usable_ok r
  have hTt : usR r = true → 1 ≤ r.tt ∧ r.tt ≤ 255 := usR_tt
  have hW := wayF_eq l r
  have hLo := owF_look l (trOf r)
  have hof : (ofF l (trOf r)).length ≤ 10000 := by
    have h1 := Zn cmpR (l.filter okR)
    have h2 := List.length_filter_le okR l
    have h3 := List.length_filter_le (fun x => decide (trOf x = trOf r)) (sd cmpR (l.filter okR))
    unfold ofF; omega
  have hP := Path_ok (ofF l (trOf r)) r.fl (by omega)
  have hpl := pathF_len (ofF l (trOf r)) r.fl
  have hkn := fun m (h : knOk l m) => knOk_ins h (trOf r, r.fl)
  have hal' := fun p => hal (trOf r, r.fl) p
  dsimp only at hkn hal'
  generalize owF l = om at hLo ⊢
  generalize wayF l r = W at hW ⊢
  generalize pathF (ofF l (trOf r)) r.fl = p at hW hP hpl hkn hal'
  generalize usR r = ub at hU hTt hW
  rw [← hLo] at hP
  refine OkM.enter Tryz.func46 rfl _ Tryz.ntmps46 rfl (fun i hi => by cases hi) ?_
  intro S w ρ0 hbor
  refine Qw ?_
  refine Qq (fun K hK => ?_)
  refine Xk 0 rfl rfl rfl (by show (true && (Value.oneCell' v && true)) = true; rw [hv]; rfl) rfl rfl rfl ?_
  (refine Xk 1 rfl rfl rfl rfl rfl rfl rfl ?_; refine Qv rfl rfl rfl ?_; refine Qj (hK _ _ (Qz (Qw (Qw ?_)))); clear hK K; refine Qq (fun K hK => ?_); refine Q7 (n := 17) rfl rfl rfl rfl rfl (by with_reducible exact lRes) rfl ?_)
  refine QW goUsable hU rfl rfl rfl rfl ?_
  (refine Qm rfl rfl rfl ?_; refine Qj (hK _ _ (Qz ?_)); clear hK K)
  refine Xy rfl (fun h => ?_) (fun h => ?_)
  · have h : ub = false := by simpa using h
    rw [if_pos h] at hW
    (refine Qw (Qq fun K hK => ?_); refine Qv rfl rfl rfl ?_; refine Qj (hK _ _ (Qz (Q0 (QY ?_)))); clear hK K)
    refine Fin.retMC [1, 0] al [_] rfl (XX Zx (Qu rfl QQ)) (by rw [hW]; rfl) rfl (fun _ => rfl) hal
  have h : ub = true := by simpa using h
  rw [if_neg (by rw [h]; decide)] at hW
  obtain ⟨ht1, ht2⟩ := hTt h
  clear hTt hU
  (refine Q1 (Qz (Qw ?_)))
  refine ZU (α := Unit) (fun _ => True) (fun _ => [(2, .own 0), (3, .own 1), (5, .own 2)])
    (fun _ => [(2, .box 145 (stmCs (trOf r, r.fl))), (1, .box 35 (rsCs r)), (0, .box 94 [.fr (mapT (owM om)), .ex v]), (8, .mpx v (knM al))]) (fun _ _ => ?_) (fun KN hM => ?_)
  rotate_left
  · refine Xu (by with_reducible exact mixed) 6 (.p 2 (.f 0 (.f 3 (.fork 1 (.p 4 (.m 5 (.a 6 .done))) 5 (.m 1 (.p 4 (.a 6 .done))))))) (by kernel_rfl) (fun K hK => ?_)
    (refine QV rfl rfl rfl (by with_reducible first | exact fS0 | exact fS1 | exact fS2 | exact fS3 | exact fS4 | exact fS5 | exact fS6 | exact fS7 | exact fS8 | exact fS9 | exact fS10 | exact fS11 | exact fN0 | exact fN1 | exact fN2 | exact fN3 | exact fN4 | exact fN5) rfl ?_; refine Q7 (n := 17) rfl rfl rfl rfl rfl (by with_reducible exact lRes) rfl ?_; refine QJ rfl rfl rfl rfl rfl (by with_reducible first | exact lInt | exact Qa | exact Q5 | exact lRess) rfl ?_)
    refine Yv ?_ ?_
    · refine QW YX (Yu r) rfl rfl rfl rfl ?_
      refine Qs rfl (by with_reducible exact bStm) rfl (.agg rfl rfl rfl rfl (.one rfl rfl rfl rfl .nil)) rfl ?_
      (refine Qg 2 rfl rfl (by with_reducible first | exact zvStm | exact zvCn) rfl rfl rfl ?_; refine Qc 4 rfl rfl rfl rfl rfl (by with_reducible exact szStm) rfl rfl ?_; refine Qj (hK _ _ ?_); clear hK K)
      exact Xq hM () trivial (QX rfl ⟨rfl, rfl, rfl, trivial⟩)
    · (refine Qg 2 rfl rfl (by with_reducible first | exact zvStm | exact zvCn) rfl rfl rfl ?_)
      refine QW YX (Yu r) rfl rfl rfl rfl ?_
      refine Qs rfl (by with_reducible exact bStm) rfl (.agg rfl rfl rfl rfl (.one rfl rfl rfl rfl .nil)) rfl ?_
      (refine Qc 4 rfl rfl rfl rfl rfl (by with_reducible exact szStm) rfl rfl ?_; refine Qj (hK _ _ ?_); clear hK K)
      exact Xq hM () trivial (QX rfl ⟨rfl, rfl, rfl, trivial⟩)
  (refine Qw (Qq fun K hK => ?_); refine QV rfl rfl rfl (by with_reducible first | exact fTk0 | exact fTk1 | exact fTk2 | exact fWr0 | exact fWr1 | exact X1 | exact X0 | exact Xm | exact fStm1 | exact fCn0 | exact fCn1 | exact fCn2 | exact fCn3 | exact fCs0 | exact fCs1) rfl ?_; refine QJ rfl rfl rfl rfl rfl (by with_reducible first | exact lMOwn | exact lMKnown) rfl ?_; refine Q7 (n := 4) rfl rfl rfl rfl rfl (by with_reducible exact lStm) rfl ?_)
  refine Ops.lookM2 (i := 8) (cv := adsC) (enc := stmE) [] (trOf r, r.fl) rfl rfl rfl rfl (KeyIs.agg (us := stmV (trOf r, r.fl)) rfl) uMKnown z0Ads (fun S w => Zx S w _ rfl) keyStm rfl ?_
  generalize look1 al (trOf r, r.fl) = lk at hal'
  refine Qx rfl rfl rfl ?_
  refine Qf rfl rfl rfl rfl ?_
  refine Qf rfl rfl rfl rfl ?_
  refine Qv rfl rfl rfl ?_
  refine Qv rfl rfl rfl ?_
  refine Qj (hK _ _ ?_)
  clear hK K
  refine Qz ?_
  refine Qw ?_
  refine ZU (α := KnM) (fun m => knOk l m) (fun _ => [(2, .own 0), (3, .own 1), (5, .own 2), (6, .ct (adsC p))])
    (fun m => [(2, .box 145 (stmCs (trOf r, r.fl))), (1, .box 35 (rsCs r)), (0, .box 94 [.fr (mapT (owM om)), .ex v]), (8, .mpx v (knM m))]) (fun m hm => ?_) (fun KN hM => ?_)
  rotate_left
  · (refine Qw (Qq fun K hK => ?_); refine Qx rfl rfl rfl ?_; refine Qm rfl rfl rfl ?_; refine Qj (hK _ _ (Qz ?_)); clear hK K)
    refine Xy rfl (fun h2 => ?_) (fun h2 => ?_)
    · (refine Qw ?_)
      refine Xu (by with_reducible exact mixed) 9 (.p 0 (.p 2 (.p 5 (.f 1 (.f 3 (.f 4 (.f 6 (.m 7 (.p 8 .done))))))))) (by kernel_rfl) (fun K hK => ?_)
      (refine QV rfl rfl rfl (by with_reducible first | exact fTk0 | exact fTk1 | exact fTk2 | exact fWr0 | exact fWr1 | exact X1 | exact X0 | exact Xm | exact fStm1 | exact fCn0 | exact fCn1 | exact fCn2 | exact fCn3 | exact fCs0 | exact fCs1) rfl ?_; refine QV rfl rfl rfl (by with_reducible first | exact fTk0 | exact fTk1 | exact fTk2 | exact fWr0 | exact fWr1 | exact X1 | exact X0 | exact Xm | exact fStm1 | exact fCn0 | exact fCn1 | exact fCn2 | exact fCn3 | exact fCs0 | exact fCs1) rfl ?_; refine QV rfl rfl rfl (by with_reducible first | exact fS0 | exact fS1 | exact fS2 | exact fS3 | exact fS4 | exact fS5 | exact fS6 | exact fS7 | exact fS8 | exact fS9 | exact fS10 | exact fS11 | exact fN0 | exact fN1 | exact fN2 | exact fN3 | exact fN4 | exact fN5) rfl ?_; refine QJ rfl rfl rfl rfl rfl (by with_reducible first | exact lMOwn | exact lMKnown) rfl ?_)
      refine Ops.ldNA (n := 3) rfl rfl rfl rfl (Nat.le_of_ble_eq_true rfl) (by with_reducible exact Zl) rfl ?_
      refine Ops.lookF (enc := tkE) (cv := rssC) [] (trOf r) rfl rfl rfl (KeyIs.agg (us := tkVs (trOf r)) rfl) uMOwn z0Rss (fun S w => Zx S w _ rfl) keyTk rfl ?_
      (refine QJ rfl rfl rfl rfl rfl (by with_reducible first | exact lInt | exact Qa | exact Q5 | exact lRess) rfl ?_)
      refine Xp 3 goPath hP rfl rfl rfl rfl rfl rfl ?_
      refine X2 3 _ rfl (adrs_frozen _ _) hbor ?_
      (refine Qv rfl rfl rfl ?_; refine Qj (hK _ _ (Qz ?_)); clear hK K; refine Qq (fun K hK => ?_); refine QV rfl rfl rfl (by with_reducible first | exact fTk0 | exact fTk1 | exact fTk2 | exact fWr0 | exact fWr1 | exact X1 | exact X0 | exact Xm | exact fStm1 | exact fCn0 | exact fCn1 | exact fCn2 | exact fCn3 | exact fCs0 | exact fCs1) rfl ?_; refine QJ rfl rfl rfl rfl rfl (by with_reducible first | exact lMOwn | exact lMKnown) rfl ?_; refine Q7 (n := 4) rfl rfl rfl rfl rfl (by with_reducible exact lStm) rfl ?_; refine Qx rfl rfl rfl ?_)
      refine Xx (i := 8) (enc := stmE) (cv := adsC) (trOf r, r.fl) p rfl rfl rfl (KeyIs.agg (us := stmV (trOf r, r.fl)) rfl) rfl uMKnown keyStm ?_
      (refine Qj (hK _ _ ?_); clear hK K)
      exact Xq hM _ (hkn al hal) (QX rfl ⟨rfl, rfl, rfl, rfl, trivial⟩)
    · cases lk with
      | none => cases h2
      | some p' =>
        rw [← hal' p' rfl] at hM
        (refine Q1 ?_)
        exact Xq hM al hal (QX rfl ⟨rfl, rfl, rfl, rfl, trivial⟩)
  refine Qw ?_
  refine St.cutR (α := List (_root_.Fin 4294967296)) (fun p' => W = wiresG 0 p' true ∧ p'.length ≤ 256) (fun p' => [(2, .own 0), (3, .own 1), (6, .ct (adsC p'))])
    (fun _ => [(2, .box 145 (stmCs (trOf r, r.fl))), (1, .box 35 (rsCs r)), (0, .box 94 [.fr (mapT (owM om)), .ex v]), (8, .mpx v (knM m))]) (fun p' hp' => ?_) (fun KN hM hR => ?_)
  rotate_left
  · (refine Q4 (Qw (Qq fun K hK => ?_)); refine Qx rfl rfl rfl ?_; refine Qd rfl rfl (by with_reducible first | exact sTks.und | exact sWrs.und | exact sIks.und | exact sAdrs.und) (List.length_map ..) rfl ?_; refine QV rfl rfl rfl (by with_reducible first | exact fS0 | exact fS1 | exact fS2 | exact fS3 | exact fS4 | exact fS5 | exact fS6 | exact fS7 | exact fS8 | exact fS9 | exact fS10 | exact fS11 | exact fN0 | exact fN1 | exact fN2 | exact fN3 | exact fN4 | exact fN5) rfl ?_; refine QJ rfl rfl rfl rfl rfl (by with_reducible first | exact lInt | exact Qa | exact Q5 | exact lRess) rfl ?_; refine Qk igeq rfl rfl rfl rfl ?_; refine Qv rfl rfl rfl ?_; refine Qj (hK _ _ (Qz ?_)); clear hK K)
    refine Q2 rfl (fun h2 => ?_) (fun h2 => ?_)
    · rw [if_pos h2] at hW
      (refine Qq (fun K hK => ?_); refine Qx rfl rfl rfl ?_; refine QV rfl rfl rfl (by with_reducible first | exact fS0 | exact fS1 | exact fS2 | exact fS3 | exact fS4 | exact fS5 | exact fS6 | exact fS7 | exact fS8 | exact fS9 | exact fS10 | exact fS11 | exact fN0 | exact fN1 | exact fN2 | exact fN3 | exact fN4 | exact fN5) rfl ?_; refine QJ rfl rfl rfl rfl rfl (by with_reducible first | exact lInt | exact Qa | exact Q5 | exact lRess) rfl ?_)
      refine Ops.cutHi rfl rfl rfl (by with_reducible exact sAdrs) (by omega) (by rw [List.length_map]; omega) rfl ?_
      rw [← List.map_take]
      (refine Qv rfl rfl rfl ?_; refine Qj (hK _ _ (Qb ?_)); clear hK K)
      exact Xq hM (p.take r.tt.toNat) ⟨hW, by rw [List.length_take]; omega⟩ (QX rfl ⟨rfl, rfl, rfl, trivial⟩)
    rw [if_neg h2] at hW
    (refine Qw (Qq fun K hK => ?_); refine Qx rfl rfl rfl ?_; refine Qd rfl rfl (by with_reducible first | exact sTks.und | exact sWrs.und | exact sIks.und | exact sAdrs.und) (List.length_map ..) rfl ?_; refine QV rfl rfl rfl (by with_reducible first | exact fS0 | exact fS1 | exact fS2 | exact fS3 | exact fS4 | exact fS5 | exact fS6 | exact fS7 | exact fS8 | exact fS9 | exact fS10 | exact fS11 | exact fN0 | exact fN1 | exact fN2 | exact fN3 | exact fN4 | exact fN5) rfl ?_; refine QJ rfl rfl rfl rfl rfl (by with_reducible first | exact lInt | exact Qa | exact Q5 | exact lRess) rfl ?_; refine Qk (isub (by omega) (by omega)) rfl rfl rfl rfl ?_; refine Qk ilss rfl rfl rfl rfl ?_; refine Qx rfl rfl rfl ?_)
    refine Q6 58 rfl (fun h3 => ?_) (fun h3 => ?_)
    · rw [if_pos (Or.inl h3)] at hW
      (refine Qy rfl rfl rfl ?_; refine Qy rfl rfl rfl ?_; refine QZ rfl rfl rfl rfl ?_; refine Qv rfl rfl rfl ?_; refine Qj (hK _ _ (Qz (Qo rfl (Qw ?_)))); clear hK K; refine Qq (fun K hK => ?_); refine Qv rfl rfl rfl ?_; refine Qj (hK _ _ (Qz (Q0 (Q8 ?_)))); clear hK K)
      exact Fin.up hR (Fin.retMC [2, 1, 0] m [_] rfl (XX Zx (Qu rfl QQ)) (by rw [hW]; rfl) rfl (fun _ => rfl) hm)
    · (refine QV rfl rfl rfl (by with_reducible first | exact fS0 | exact fS1 | exact fS2 | exact fS3 | exact fS4 | exact fS5 | exact fS6 | exact fS7 | exact fS8 | exact fS9 | exact fS10 | exact fS11 | exact fN0 | exact fN1 | exact fN2 | exact fN3 | exact fN4 | exact fN5) rfl ?_; refine QJ rfl rfl rfl rfl rfl (by with_reducible first | exact lInt | exact Qa | exact Q5 | exact lRess) rfl ?_; refine QU rfl rfl rfl rfl ?_; refine Qv rfl rfl rfl ?_; refine Qj (hK _ _ (Qz ?_)); clear hK K)
      refine Xy rfl (fun h4 => ?_) (fun h4 => ?_)
      · rw [if_pos (Or.inr h4)] at hW
        (refine Qw (Qq fun K hK => ?_); refine Qv rfl rfl rfl ?_; refine Qj (hK _ _ (Qz (Q0 (Q8 ?_)))); clear hK K)
        exact Fin.up hR (Fin.retMC [2, 1, 0] m [_] rfl (XX Zx (Qu rfl QQ)) (by rw [hW]; rfl) rfl (fun _ => rfl) hm)
      · rw [if_neg (fun h => h.elim h3 (fun h => by rw [h4] at h; cases h))] at hW
        (refine Q1 (Qb ?_))
        exact Xq hM p ⟨hW, hpl⟩ (QX rfl ⟨rfl, rfl, rfl, trivial⟩)
  obtain ⟨hW', hpl'⟩ := hp'
  clear hW hpl hkn hP hal' hLo hof
  (refine Qw (Qq fun K hK => ?_); refine Qv rfl rfl rfl ?_; refine Qj (hK _ _ (Qz (Qw (Qw ?_)))); clear hK K; refine Qq (fun K hK => ?_); refine Qx rfl rfl rfl ?_; refine Qd rfl rfl (by with_reducible first | exact sTks.und | exact sWrs.und | exact sIks.und | exact sAdrs.und) (List.length_map ..) rfl ?_; refine Qx rfl rfl rfl ?_; refine Qj (hK _ _ (Qz (Q4 ?_))); clear hK K)
  refine Xe 8 4 37 2 rfl rfl rfl ?_
  refine Xj (α := Nat × List Wr) (fun q => q.1 ≤ p'.length ∧ q.2.length ≤ q.1 ∧ wiresG 0 p' true = q.2 ++ wiresG (prv p' q.1) (p'.drop q.1) (decide (q.1 = 0)))
    (fun q => [(3, .own 1), (6, .ct (adsC p')), (8, .own 4), (62, .ct (adsC p')), (63, .ct (intC p'.length)), (64, .ct (intC q.1))])
    (fun q => [(4, .row 37 2 (wrs q.2)), (2, .box 145 (stmCs (trOf r, r.fl))), (1, .box 35 (rsCs r)), (0, .box 94 [.fr (mapT (owM om)), .ex v]), (8, .mpx v (knM m))])
    (fun q => p'.length - q.1) (0, []) ⟨Nat.zero_le _, Nat.zero_le _, rfl⟩ (by exact QX rfl ⟨rfl, rfl, rfl, rfl, rfl, rfl, trivial⟩) ?_
  intro ⟨i, out⟩ ⟨hi, hol, hq⟩
  try dsimp only at hi hol hq ⊢
  (refine Qw (Qq fun K hK => ?_); refine Qk ilss rfl rfl rfl rfl ?_; refine Qj (hK _ _ (Qz (Qw ?_))); clear hK K)
  refine Q2 rfl (fun h => ?_) (fun h => ?_)
  · have e2 : (i : Int).toNat = i := Int.toNat_natCast i
    rw [wiresG_step (by omega)] at hq
    (refine Q1 (Qz (Qw (Q4 (Qw (Qq fun K hK => ?_))))); refine Qx rfl rfl rfl ?_)
    refine Ql rfl rfl rfl (by with_reducible exact sAdrs) (by omega) (adrs_at (by omega) (by omega)) rfl ?_
    rw [e2]
    refine XQ rfl rfl rfl (by with_reducible exact Qa) rfl ?_
    generalize p'.getD i 0 = a at hq
    refine Qv rfl rfl rfl ?_
    refine Qv rfl rfl rfl ?_
    refine Qj (hK _ _ ?_)
    clear hK K
    refine Qz ?_
    refine Qw ?_
    refine Qq (fun K hK => ?_)
    refine Qv rfl rfl rfl ?_
    refine Qj (hK _ _ ?_)
    clear hK K
    refine Qz ?_
    refine Qw ?_
    refine ZU (α := Unit) (fun _ => True) (fun _ => [(3, .own 1), (6, .ct (adsC p')), (8, .own 4), (9, .ct (intC i)), (10, .ct (adrF a)), (11, .ct (adrF (prv p' i))), (62, .ct (adsC p')), (63, .ct (intC p'.length)), (64, .ct (intC i))])
      (fun _ => [(4, .row 37 2 (wrs out)), (2, .box 145 (stmCs (trOf r, r.fl))), (1, .box 35 (rsCs r)), (0, .box 94 [.fr (mapT (owM om)), .ex v]), (8, .mpx v (knM m))]) (fun _ _ => ?_) (fun KN hM => ?_)
    rotate_left
    · (refine Qw (Qq fun K hK => ?_); refine Qx rfl rfl rfl ?_; refine Qk igtr rfl rfl rfl rfl ?_; refine Qj (hK _ _ (Qz ?_)); clear hK K)
      refine Q2 rfl (fun h2 => ?_) (fun h2 => ?_)
      · have e3 : ((i : Int) - 1).toNat = i - 1 := by omega
        have e4 : prv p' i = p'.getD (i - 1) 0 := if_neg (by omega)
        rw [e4] at hM
        (refine Qq (fun K hK => ?_); refine Qx rfl rfl rfl ?_; refine Qx rfl rfl rfl ?_; refine Qk (isub (by omega) (by omega)) rfl rfl rfl rfl ?_)
        refine Ql rfl rfl rfl (by with_reducible exact sAdrs) (by omega) (adrs_at (by omega) (by omega)) rfl ?_
        rw [e3]
        refine XQ rfl rfl rfl (by with_reducible exact Qa) rfl ?_
        (refine Qv rfl rfl rfl ?_; refine Qj (hK _ _ ?_); clear hK K)
        exact Xq hM () trivial (QX rfl ⟨rfl, rfl, rfl, rfl, rfl, rfl, rfl, rfl, rfl, trivial⟩)
      · have e4 : prv p' i = 0 := if_pos (by omega)
        rw [e4] at hM
        (refine Q1 ?_)
        exact Xq hM () trivial (QX rfl ⟨rfl, rfl, rfl, rfl, rfl, rfl, rfl, rfl, rfl, trivial⟩)
    generalize prv p' i = f at hq
    (refine Qw (Qq fun K hK => ?_); refine Qx rfl rfl rfl ?_; refine Qk ineq rfl rfl rfl rfl ?_; refine Qx rfl rfl rfl ?_)
    have ez : ∀ x : _root_.Fin 4294967296, ((x.val : Int) ≠ 0) ↔ x ≠ 0 := fun x => ⟨fun h e => h (by rw [e]; rfl), fun h e => h (Fin.ext (by have e0 : ((0 : _root_.Fin 4294967296).val) = 0 := rfl; omega))⟩
    refine Q6 78 rfl (fun h1 => ?_) (fun h1 => ?_)
    · have h1 := (ez a).1 h1
      (refine Qx rfl rfl rfl ?_; refine Qk ieql rfl rfl rfl rfl ?_; refine Qx rfl rfl rfl ?_)
      refine Q6 81 rfl (fun h2 => ?_) (fun h2 => ?_)
      · (refine Qy rfl rfl rfl ?_; refine Qy rfl rfl rfl ?_; refine QZ rfl rfl rfl rfl ?_; refine QZ rfl rfl rfl rfl ?_; refine Qj (hK _ _ (Qz (Qo rfl ?_))); clear hK K; refine Qq (fun K hK => ?_); refine Qx rfl rfl rfl ?_; refine Qx rfl rfl rfl ?_; refine Qx rfl rfl rfl ?_)
        refine Qs rfl (by with_reducible exact bWire) rfl (.one rfl rfl rfl rfl (.one rfl rfl rfl rfl .nil)) rfl ?_
        refine X4 (n := 2) rfl rfl (by with_reducible exact sWrs) rfl rfl (by decide) rfl ?_
        refine Qt out.length (wrs (out ++ [(f, a)])) rfl rfl rfl rfl (by with_reducible exact sWrs) (Yw out) rfl (by omega) (by omega) (wrs_snoc out (f, a)) rfl ?_
        (refine Qv rfl rfl rfl ?_; refine Qj (hK _ _ (Qz ?_)); clear hK K; refine Qq (fun K hK => ?_); refine Qk (iadd (by omega) (by omega)) rfl rfl rfl rfl ?_; refine Qx rfl rfl rfl ?_; refine Qj (hK _ _ (Q3 ?_)); clear hK K)
        refine Q9 (i + 1, out ++ [(f, a)]) (by dsimp only; omega) ⟨by dsimp only; omega, by simp only [List.length_append, List.length_singleton]; omega, by rw [hq, if_pos (⟨h1, .inl (by omega)⟩ : a ≠ 0 ∧ (i = 0 ∨ f ≠ 0)), List.append_assoc]⟩ (by exact QX rfl ⟨rfl, rfl, rfl, rfl, rfl, by simp only [Int.natCast_add]; rfl, trivial⟩)
      · (refine Qx rfl rfl rfl ?_; refine Qk ineq rfl rfl rfl rfl ?_; refine QU rfl rfl rfl rfl ?_; refine QZ rfl rfl rfl rfl ?_; refine Qj (hK _ _ (Qz ?_)); clear hK K)
        refine Q2 rfl (fun h3 => ?_) (fun h3 => ?_)
        · (refine Qq (fun K hK => ?_); refine Qx rfl rfl rfl ?_; refine Qx rfl rfl rfl ?_; refine Qx rfl rfl rfl ?_)
          refine Qs rfl (by with_reducible exact bWire) rfl (.one rfl rfl rfl rfl (.one rfl rfl rfl rfl .nil)) rfl ?_
          refine X4 (n := 2) rfl rfl (by with_reducible exact sWrs) rfl rfl (by decide) rfl ?_
          refine Qt out.length (wrs (out ++ [(f, a)])) rfl rfl rfl rfl (by with_reducible exact sWrs) (Yw out) rfl (by omega) (by omega) (wrs_snoc out (f, a)) rfl ?_
          (refine Qv rfl rfl rfl ?_; refine Qj (hK _ _ (Qz ?_)); clear hK K; refine Qq (fun K hK => ?_); refine Qk (iadd (by omega) (by omega)) rfl rfl rfl rfl ?_; refine Qx rfl rfl rfl ?_; refine Qj (hK _ _ (Q3 ?_)); clear hK K)
          refine Q9 (i + 1, out ++ [(f, a)]) (by dsimp only; omega) ⟨by dsimp only; omega, by simp only [List.length_append, List.length_singleton]; omega, by rw [hq, if_pos (⟨h1, .inr ((ez f).1 h3)⟩ : a ≠ 0 ∧ (i = 0 ∨ f ≠ 0)), List.append_assoc]⟩ (by exact QX rfl ⟨rfl, rfl, rfl, rfl, rfl, by simp only [Int.natCast_add]; rfl, trivial⟩)
        · (refine Q1 (Qz (Qq fun K hK => ?_)); refine Qk (iadd (by omega) (by omega)) rfl rfl rfl rfl ?_; refine Qx rfl rfl rfl ?_; refine Qj (hK _ _ (Q3 ?_)); clear hK K)
          refine Q9 (i + 1, out) (by dsimp only; omega) ⟨by dsimp only; omega, by dsimp only; omega, by rw [hq, if_neg (fun h => h.2.elim (fun e => h2 (by omega)) (fun e => h3 ((ez f).2 e)) : ¬ (a ≠ 0 ∧ (i = 0 ∨ f ≠ 0))), List.nil_append]⟩ (by exact QX rfl ⟨rfl, rfl, rfl, rfl, rfl, by simp only [Int.natCast_add]; rfl, trivial⟩)
    · (refine Qy rfl rfl rfl ?_; refine Qy rfl rfl rfl ?_; refine Qy rfl rfl rfl ?_; refine Qy rfl rfl rfl ?_; refine Qy rfl rfl rfl ?_; refine Qy rfl rfl rfl ?_; refine QU rfl rfl rfl rfl ?_; refine Qj (hK _ _ (Qz (Xv rfl (Q1 (Qz ?_))))); clear hK K; refine Qq (fun K hK => ?_); refine Qk (iadd (by omega) (by omega)) rfl rfl rfl rfl ?_; refine Qx rfl rfl rfl ?_; refine Qj (hK _ _ (Q3 ?_)); clear hK K)
      refine Q9 (i + 1, out) (by dsimp only; omega) ⟨by dsimp only; omega, by dsimp only; omega, by rw [hq, if_neg (fun h => h1 ((ez a).2 h.1) : ¬ (a ≠ 0 ∧ (i = 0 ∨ f ≠ 0))), List.nil_append]⟩ (by exact QX rfl ⟨rfl, rfl, rfl, rfl, rfl, by simp only [Int.natCast_add]; rfl, trivial⟩)
  · have hi' : i = p'.length := by omega
    rw [hi', List.drop_length] at hq
    have hq : wiresG 0 p' true = out := by rw [hq]; exact List.append_nil _
    rw [hq] at hW'
    (refine Qp (Qz (Qw (Qq fun K hK => ?_))); refine Qx rfl rfl rfl ?_; refine Qv rfl rfl rfl ?_; refine Qj (hK _ _ (Qz (Q0 ?_))); clear hK K)
    refine Z6 4 _ rfl (wrs_frozen _ _) hbor ?_
    exact Fin.retMC [2, 1, 0] m [_] rfl (Qu rfl QQ) (by rw [hW']; rfl) rfl (fun _ => rfl) hm
end Go.Proofs.YtlkdkbdgnjcopaaGreat
namespace Go.Proofs.YtlkdkbdgnjcopaaGreat
open Go.Own Go.Limbs
def kS (fl tt : Int) (s : Fin 4294967296 × Int) (r : Rs) : Fin 4294967296 × Int :=
  if usR r = false ∨ ¬ r.fl = fl ∨ ¬ r.tt = tt then s
  else if r.an = false then (s.1, max s.2 1)
  else if s.2 ≤ 1 then (r.fr, 2)
  else if s.2 = 2 ∧ s.1 ≠ r.fr then (0, 3) else s
abbrev spV (m : AdM × StM) (fl tt : Int) : Fin 4294967296 × Int := ((look1 m.1 (fl, tt)).getD 0, (look1 m.2 (fl, tt)).getD 0)
attribute [local irreducible] Go.Own.Fin Ok OkB OkF OkL OkM OkN OkT Ops St
theorem gorUsable : InGo Tryz.prog 84 := InGo.of Tryz.func84 rfl (by decide)
theorem rUsable_ok (r : Rs) : Ok Tryz.prog 84 [rsC r] (boolC (usR r)) := by
  have hV := rValidR_ok r
  have e : usR r = (!r.db && okR r) := rfl
  generalize usR r = u at e ⊢
  generalize okR r = o at hV e
  refine Ok.enter Tryz.func84 rfl _ Tryz.ntmps84 rfl ?_
  intro S w
  (refine Qw (Qq fun K hK => ?_); refine Xk 0 rfl rfl rfl rfl rfl rfl rfl ?_; refine Qv rfl rfl rfl ?_; refine Qj (hK _ _ (Qz (Qw ?_))); clear hK K; refine Qq (fun K hK => ?_); refine Q7 (n := 17) rfl rfl rfl rfl rfl (by with_reducible exact lRes) rfl ?_)
  refine QW gorValidR hV rfl rfl rfl rfl ?_
  (refine Qx rfl rfl rfl ?_)
  refine X5 5 (b := o) rfl (fun h => ?_) (fun h => ?_)
  · (refine QV rfl rfl rfl (by with_reducible first | exact fS0 | exact fS1 | exact fS2 | exact fS3 | exact fS4 | exact fS5 | exact fS6 | exact fS7 | exact fS8 | exact fS9 | exact fS10 | exact fS11 | exact fN0 | exact fN1 | exact fN2 | exact fN3 | exact fN4 | exact fN5) rfl ?_; refine QJ rfl rfl rfl rfl rfl (by with_reducible first | exact lInt | exact Qa | exact Q5 | exact lRess) rfl ?_; refine Qm rfl rfl rfl ?_; refine QZ rfl rfl rfl rfl ?_; refine Qv rfl rfl rfl ?_; refine Qj (hK _ _ (Qz (Q0 ?_))); clear hK K)
    refine QK [_] rfl (Qu rfl QQ) (by rw [e, h, Bool.and_true]; rfl) rfl
  · (refine Qy rfl rfl rfl ?_; refine Qy rfl rfl rfl ?_; refine Qy rfl rfl rfl ?_; refine QU rfl rfl rfl rfl ?_; refine Qv rfl rfl rfl ?_; refine Qj (hK _ _ (Qz (Q0 ?_))); clear hK K)
    refine QK [_] rfl (Qu rfl QQ) (by rw [e, h, Bool.and_false]; rfl) rfl
end Go.Proofs.YtlkdkbdgnjcopaaGreat
namespace Go.Proofs.YtlkdkbdgnjcopaaGreat
open Go.Own Go.Limbs
theorem clash_none : ∀ (l : List Rs) (m : SeenM), clashG m l = l.length → (∀ r ∈ l, plB r = true → ∀ a, look1 m (plS r) = some a → a = r.fr) ∧ l.Pairwise (fun a b => conB a b = false)
  | [], _, _ => ⟨fun r h => absurd h (by simp), List.Pairwise.nil⟩
  | x :: l, m, h => by
    simp only [clashG, List.length_cons] at h
    by_cases h1 : plB x = false
    · rw [if_pos h1] at h
      obtain ⟨i1, i2⟩ := clash_none l m (by omega)
      refine ⟨fun r hr hb a ha => ?_, List.pairwise_cons.2 ⟨fun b _ => by unfold conB; rw [h1]; rfl, i2⟩⟩
      rcases List.mem_cons.1 hr with hr | hr
      · subst hr; rw [h1] at hb; cases hb
      · exact i1 r hr hb a ha
    · rw [if_neg h1] at h
      have h1 : plB x = true := by simpa using h1
      by_cases h2 : (look1 m (plS x)).isSome = true ∧ (look1 m (plS x)).getD 0 ≠ x.fr
      · rw [if_pos h2] at h; omega
      · rw [if_neg h2] at h
        obtain ⟨i1, i2⟩ := clash_none l _ (show clashG (ins m (plS x) x.fr) l = l.length by omega)
        have hx : ∀ a, look1 m (plS x) = some a → a = x.fr := fun a ha => Decidable.byContradiction fun hn => h2 ⟨by rw [ha]; rfl, by rw [ha]; exact hn⟩
        refine ⟨fun r hr hb a ha => ?_, List.pairwise_cons.2 ⟨fun b hb => ?_, i2⟩⟩
        · rcases List.mem_cons.1 hr with hr | hr
          · subst hr; exact hx a ha
          · by_cases e : plS r = plS x
            · have := i1 r hr hb x.fr (by rw [ZY, if_pos e])
              rw [e] at ha
              rw [hx a ha]; exact this
            · exact i1 r hr hb a (by rw [ZY, if_neg e]; exact ha)
        · unfold conB
          by_cases hb2 : plB b = true
          · by_cases e : plS x = plS b
            · have := i1 b hb hb2 x.fr (by rw [ZY, if_pos e.symm])
              rw [decide_eq_false (show ¬ (x.fr ≠ b.fr) from fun h => h this)]; simp
            · rw [decide_eq_false e]; simp
          · rw [show plB b = false by simpa using hb2]; simp
theorem clash_ok : ∀ (l : List Rs) (m : SeenM), (∀ r ∈ l, plB r = true → ∀ a, look1 m (plS r) = some a → a = r.fr) → l.Pairwise (fun a b => conB a b = false) → clashG m l = l.length
  | [], _, _, _ => rfl
  | x :: l, m, h1, h2 => by
    obtain ⟨p1, p2⟩ := List.pairwise_cons.1 h2
    simp only [clashG, List.length_cons]
    by_cases hb : plB x = false
    · rw [if_pos hb, clash_ok l m (fun r hr => h1 r (List.mem_cons_of_mem _ hr)) p2]
    · rw [if_neg hb]
      have hb : plB x = true := by simpa using hb
      rw [if_neg (fun h => ?_), clash_ok l _ (fun r hr hbr a ha => ?_) p2]
      · rw [ZY] at ha
        split at ha
        · rename_i e
          injection ha with ha
          have hc := p1 r hr
          unfold conB at hc
          rw [hb, hbr, decide_eq_true e.symm] at hc
          rw [← ha]
          exact Decidable.byContradiction fun hn => by rw [decide_eq_true hn] at hc; cases hc
        · exact h1 r (List.mem_cons_of_mem _ hr) hbr a ha
      · obtain ⟨q1, q2⟩ := h
        cases e : look1 m (plS x) with
        | none => rw [e] at q1; cases q1
        | some a => rw [e] at q2; exact q2 (h1 x (List.mem_cons_self ..) hb a e)
theorem clash_take : ∀ (l : List Rs) (m : SeenM) (j : Nat), clashG m (l.take j) = min (clashG m l) j
  | [], m, j => by simp [clashG]
  | x :: l, m, 0 => by simp [clashG]
  | x :: l, m, j + 1 => by
    rw [List.take_succ_cons]
    simp only [clashG]
    split
    · rw [clash_take l m j]; omega
    · split
      · omega
      · rw [clash_take l _ j]; omega
theorem consB_iff (l : List Rs) : consB l = true ↔ (sd cmpR (l.filter okR)).Pairwise (fun a b => conB a b = false) := by
  unfold consB
  generalize sd cmpR (l.filter okR) = o
  constructor
  · intro h
    by_cases hk : clashG [] o < o.length
    · exfalso
      have hk2 : clashG [] (o.take (clashG [] o)) = (o.take (clashG [] o)).length := by rw [clash_take, List.length_take]; omega
      have hf : (o.take (clashG [] o)).findIdx? (fun a => conB a (o.getD (clashG [] o) rs0)) = none := by
        have : witG o = (o.take (clashG [] o)).findIdx? (fun a => conB a (o.getD (clashG [] o) rs0)) := if_pos hk
        rw [this] at h
        cases e : (o.take (clashG [] o)).findIdx? (fun a => conB a (o.getD (clashG [] o) rs0)) with
        | none => rfl
        | some v => rw [e] at h; cases h
      generalize hkk : clashG [] o = k at hk hk2 hf
      have hp : (o.take (k + 1)).Pairwise (fun a b => conB a b = false) := by
        rw [List.take_add_one, List.getElem?_eq_getElem hk]
        refine List.pairwise_append.2 ⟨(clash_none _ _ hk2).2, List.pairwise_singleton _ _, fun a ha b hb => ?_⟩
        have hb : b = o[k] := by simpa using hb
        rw [List.findIdx?_eq_none_iff] at hf
        have := hf a ha
        rw [List.getD_eq_getElem?_getD, List.getElem?_eq_getElem hk] at this
        rw [hb]; exact this
      have h5 := clash_ok (o.take (k + 1)) [] (fun r _ _ a ha => by cases ha) hp
      rw [clash_take, hkk, List.length_take] at h5
      omega
    · exact (clash_none o [] (by have := clashG_le o []; omega)).2
  · intro h
    have h5 := clash_ok o [] (fun r _ _ a ha => by cases ha) h
    have : witG o = none := if_neg (by omega)
    rw [this]; rfl
attribute [local irreducible] Go.Own.Fin Ok OkB OkF OkL OkM OkN OkT Ops St
theorem gorTraceOf : InGo Tryz.prog 80 := InGo.of Tryz.func80 rfl (by decide)
theorem rTraceOf_ok (r : Rs) : Ok Tryz.prog 80 [rsC r] (tkC (trOf r)) := by
  refine Ok.enter Tryz.func80 rfl _ Tryz.ntmps80 rfl ?_
  intro S w
  (refine Qw (Qq fun K hK => ?_); refine Xk 0 rfl rfl rfl rfl rfl rfl rfl ?_)
  refine Qg 1 rfl rfl (by with_reducible exact zvTrace) rfl rfl rfl ?_
  (refine Qj (hK _ _ (Qz (Qw ?_))); clear hK K; refine Qq (fun K hK => ?_); refine QV rfl rfl rfl (by with_reducible first | exact fS0 | exact fS1 | exact fS2 | exact fS3 | exact fS4 | exact fS5 | exact fS6 | exact fS7 | exact fS8 | exact fS9 | exact fS10 | exact fS11 | exact fN0 | exact fN1 | exact fN2 | exact fN3 | exact fN4 | exact fN5) rfl ?_; refine QJ rfl rfl rfl rfl rfl (by with_reducible first | exact lInt | exact Qa | exact Q5 | exact lRess) rfl ?_; refine QV rfl rfl rfl (by with_reducible first | exact fS0 | exact fS1 | exact fS2 | exact fS3 | exact fS4 | exact fS5 | exact fS6 | exact fS7 | exact fS8 | exact fS9 | exact fS10 | exact fS11 | exact fN0 | exact fN1 | exact fN2 | exact fN3 | exact fN4 | exact fN5) rfl ?_; refine QJ rfl rfl rfl rfl rfl (by with_reducible first | exact lInt | exact Qa | exact Q5 | exact lRess) rfl ?_; refine QV rfl rfl rfl (by with_reducible first | exact fS0 | exact fS1 | exact fS2 | exact fS3 | exact fS4 | exact fS5 | exact fS6 | exact fS7 | exact fS8 | exact fS9 | exact fS10 | exact fS11 | exact fN0 | exact fN1 | exact fN2 | exact fN3 | exact fN4 | exact fN5) rfl ?_; refine QJ rfl rfl rfl rfl rfl (by with_reducible first | exact lInt | exact Qa | exact Q5 | exact lRess) rfl ?_)
  refine Qs rfl (by with_reducible exact bTrace) rfl (.one rfl rfl rfl rfl (.one rfl rfl rfl rfl (.one rfl rfl rfl rfl .nil))) rfl ?_
  refine Qc 3 rfl rfl rfl rfl rfl (by with_reducible exact szTrace) rfl rfl ?_
  (refine Qj (hK _ _ (Qz (Q0 ?_))); clear hK K)
  refine Fin.end [_] rfl (Qi (n := 3) rfl rfl (by with_reducible exact Zl) rfl QQ) rfl rfl
theorem goContradictR : InGo Tryz.prog 82 := InGo.of Tryz.func82 rfl (by decide)
set_option maxHeartbeats 8000000 in
theorem rContradict_ok (a b : Rs) : Ok Tryz.prog 82 [rsC a, rsC b] (boolC (conB a b)) := by
  have hA := rUsable_ok a
  have hB := rUsable_ok b
  have hTa := rTraceOf_ok a
  have hTb := rTraceOf_ok b
  have e : conB a b = ((a.an && usR a && (b.an && usR b)) && (decide ((trOf a, a.fl, a.tt) = (trOf b, b.fl, b.tt)) && decide (a.fr ≠ b.fr))) := rfl
  generalize usR a = ua at hA e
  generalize usR b = ub at hB e
  generalize trOf a = ta at hTa e
  generalize trOf b = tb at hTb e
  have no : (ua = false ∨ ub = false ∨ a.an = false ∨ b.an = false ∨ ¬ ta = tb ∨ ¬ a.fl = b.fl ∨ ¬ a.tt = b.tt ∨ a.fr = b.fr) → conB a b = false := fun h => by
    rw [e]
    rcases h with h | h | h | h | h | h | h | h <;> simp [h]
  have yes : ua = true → ub = true → a.an = true → b.an = true → ta = tb → a.fl = b.fl → a.tt = b.tt → ¬ a.fr = b.fr → conB a b = true := fun h1 h2 h3 h4 h5 h6 h7 h8 => by
    rw [e]; simp [h1, h2, h3, h4, h5, h6, h7, h8]
  generalize conB a b = c at no yes ⊢
  clear e
  refine Ok.enter Tryz.func82 rfl _ Tryz.ntmps82 rfl ?_
  intro S w
  (refine Qw (Qq fun K hK => ?_); refine Xk 0 rfl rfl rfl rfl rfl rfl rfl ?_; refine Xk 1 rfl rfl rfl rfl rfl rfl rfl ?_; refine Qv rfl rfl rfl ?_; refine Qj (hK _ _ (Qz (Qw ?_))); clear hK K)
  refine Xu (by with_reducible exact mixed) 45 (.f 0 (.m 1 (.p 2 (.f 3 (.m 4 (.p 5 (.p 6 (.p 7 (.f 8 (.p 9 (.p 10 (.p 11 (.f 12 (.p 13 (.p 14 (.f 15 (.f 17 (.m 16 (.m 18 (.p 19 (.p 20 (.p 21 (.p 22 (.p 24 (.f 23 (.f 25 (.p 26 (.p 27 (.p 28 (.p 29 (.p 31 (.f 30 (.f 32 (.p 33 (.p 34 (.p 35 (.p 36 (.p 37 (.p 39 (.p 40 (.f 38 (.f 41 (.p 42 (.p 43 (.p 44 .done))))))))))))))))))))))))))))))))))))))))))))) (by kernel_rfl) (fun K hK => ?_)
  (refine Q7 (n := 17) rfl rfl rfl rfl rfl (by with_reducible exact lRes) rfl ?_)
  refine QW gorUsable hA rfl rfl rfl rfl ?_
  (refine Qx rfl rfl rfl ?_)
  refine X5 7 (b := ua) rfl (fun h1 => ?_) (fun h1 => ?_)
  rotate_left
  · (refine Qy rfl rfl rfl ?_; refine Qy rfl rfl rfl ?_; refine QU rfl rfl rfl rfl ?_; refine Qx rfl rfl rfl ?_; refine Qy rfl rfl rfl ?_; refine Qy rfl rfl rfl ?_; refine QU rfl rfl rfl rfl ?_; refine Qx rfl rfl rfl ?_; refine Qy rfl rfl rfl ?_; refine Qy rfl rfl rfl ?_; refine QU rfl rfl rfl rfl ?_; refine Qx rfl rfl rfl ?_; refine Qy rfl rfl rfl ?_; refine Qy rfl rfl rfl ?_; refine Qy rfl rfl rfl ?_; refine Qy rfl rfl rfl ?_; refine Qy rfl rfl rfl ?_; refine QU rfl rfl rfl rfl ?_; refine Qx rfl rfl rfl ?_; refine Qy rfl rfl rfl ?_; refine Qy rfl rfl rfl ?_; refine Qy rfl rfl rfl ?_; refine Qy rfl rfl rfl ?_; refine Qy rfl rfl rfl ?_; refine QU rfl rfl rfl rfl ?_; refine Qx rfl rfl rfl ?_; refine Qy rfl rfl rfl ?_; refine Qy rfl rfl rfl ?_; refine Qy rfl rfl rfl ?_; refine Qy rfl rfl rfl ?_; refine Qy rfl rfl rfl ?_; refine QU rfl rfl rfl rfl ?_; refine Qx rfl rfl rfl ?_; refine Qy rfl rfl rfl ?_; refine Qy rfl rfl rfl ?_; refine Qy rfl rfl rfl ?_; refine Qy rfl rfl rfl ?_; refine Qy rfl rfl rfl ?_; refine Qy rfl rfl rfl ?_; refine Qy rfl rfl rfl ?_; refine QU rfl rfl rfl rfl ?_; refine Qv rfl rfl rfl ?_; refine Qj (hK _ _ (Qz (Q0 ?_))); clear hK K)
    refine QK [_] rfl (Qu rfl QQ) (by rw [no (.inl h1)]; rfl) rfl
  (refine Q7 (n := 17) rfl rfl rfl rfl rfl (by with_reducible exact lRes) rfl ?_)
  refine QW gorUsable hB rfl rfl rfl rfl ?_
  (refine QZ rfl rfl rfl rfl ?_; refine Qx rfl rfl rfl ?_)
  refine X5 11 (b := ub) rfl (fun h2 => ?_) (fun h2 => ?_)
  rotate_left
  · (refine Qy rfl rfl rfl ?_; refine Qy rfl rfl rfl ?_; refine QU rfl rfl rfl rfl ?_; refine Qx rfl rfl rfl ?_; refine Qy rfl rfl rfl ?_; refine Qy rfl rfl rfl ?_; refine QU rfl rfl rfl rfl ?_; refine Qx rfl rfl rfl ?_; refine Qy rfl rfl rfl ?_; refine Qy rfl rfl rfl ?_; refine Qy rfl rfl rfl ?_; refine Qy rfl rfl rfl ?_; refine Qy rfl rfl rfl ?_; refine QU rfl rfl rfl rfl ?_; refine Qx rfl rfl rfl ?_; refine Qy rfl rfl rfl ?_; refine Qy rfl rfl rfl ?_; refine Qy rfl rfl rfl ?_; refine Qy rfl rfl rfl ?_; refine Qy rfl rfl rfl ?_; refine QU rfl rfl rfl rfl ?_; refine Qx rfl rfl rfl ?_; refine Qy rfl rfl rfl ?_; refine Qy rfl rfl rfl ?_; refine Qy rfl rfl rfl ?_; refine Qy rfl rfl rfl ?_; refine Qy rfl rfl rfl ?_; refine QU rfl rfl rfl rfl ?_; refine Qx rfl rfl rfl ?_; refine Qy rfl rfl rfl ?_; refine Qy rfl rfl rfl ?_; refine Qy rfl rfl rfl ?_; refine Qy rfl rfl rfl ?_; refine Qy rfl rfl rfl ?_; refine Qy rfl rfl rfl ?_; refine Qy rfl rfl rfl ?_; refine QU rfl rfl rfl rfl ?_; refine Qv rfl rfl rfl ?_; refine Qj (hK _ _ (Qz (Q0 ?_))); clear hK K)
    refine QK [_] rfl (Qu rfl QQ) (by rw [no (.inr (.inl h2))]; rfl) rfl
  (refine QV rfl rfl rfl (by with_reducible first | exact fS0 | exact fS1 | exact fS2 | exact fS3 | exact fS4 | exact fS5 | exact fS6 | exact fS7 | exact fS8 | exact fS9 | exact fS10 | exact fS11 | exact fN0 | exact fN1 | exact fN2 | exact fN3 | exact fN4 | exact fN5) rfl ?_; refine QJ rfl rfl rfl rfl rfl (by with_reducible first | exact lInt | exact Qa | exact Q5 | exact lRess) rfl ?_; refine QZ rfl rfl rfl rfl ?_; refine Qx rfl rfl rfl ?_)
  refine X5 15 (b := a.an) rfl (fun h3 => ?_) (fun h3 => ?_)
  rotate_left
  · (refine Qy rfl rfl rfl ?_; refine Qy rfl rfl rfl ?_; refine QU rfl rfl rfl rfl ?_; refine Qx rfl rfl rfl ?_; refine Qy rfl rfl rfl ?_; refine Qy rfl rfl rfl ?_; refine Qy rfl rfl rfl ?_; refine Qy rfl rfl rfl ?_; refine Qy rfl rfl rfl ?_; refine QU rfl rfl rfl rfl ?_; refine Qx rfl rfl rfl ?_; refine Qy rfl rfl rfl ?_; refine Qy rfl rfl rfl ?_; refine Qy rfl rfl rfl ?_; refine Qy rfl rfl rfl ?_; refine Qy rfl rfl rfl ?_; refine QU rfl rfl rfl rfl ?_; refine Qx rfl rfl rfl ?_; refine Qy rfl rfl rfl ?_; refine Qy rfl rfl rfl ?_; refine Qy rfl rfl rfl ?_; refine Qy rfl rfl rfl ?_; refine Qy rfl rfl rfl ?_; refine QU rfl rfl rfl rfl ?_; refine Qx rfl rfl rfl ?_; refine Qy rfl rfl rfl ?_; refine Qy rfl rfl rfl ?_; refine Qy rfl rfl rfl ?_; refine Qy rfl rfl rfl ?_; refine Qy rfl rfl rfl ?_; refine Qy rfl rfl rfl ?_; refine Qy rfl rfl rfl ?_; refine QU rfl rfl rfl rfl ?_; refine Qv rfl rfl rfl ?_; refine Qj (hK _ _ (Qz (Q0 ?_))); clear hK K)
    refine QK [_] rfl (Qu rfl QQ) (by rw [no (.inr (.inr (.inl h3)))]; rfl) rfl
  (refine QV rfl rfl rfl (by with_reducible first | exact fS0 | exact fS1 | exact fS2 | exact fS3 | exact fS4 | exact fS5 | exact fS6 | exact fS7 | exact fS8 | exact fS9 | exact fS10 | exact fS11 | exact fN0 | exact fN1 | exact fN2 | exact fN3 | exact fN4 | exact fN5) rfl ?_; refine QJ rfl rfl rfl rfl rfl (by with_reducible first | exact lInt | exact Qa | exact Q5 | exact lRess) rfl ?_; refine QZ rfl rfl rfl rfl ?_; refine Qx rfl rfl rfl ?_)
  refine X5 19 (b := b.an) rfl (fun h4 => ?_) (fun h4 => ?_)
  rotate_left
  · (refine Qy rfl rfl rfl ?_; refine Qy rfl rfl rfl ?_; refine Qy rfl rfl rfl ?_; refine Qy rfl rfl rfl ?_; refine Qy rfl rfl rfl ?_; refine QU rfl rfl rfl rfl ?_; refine Qx rfl rfl rfl ?_; refine Qy rfl rfl rfl ?_; refine Qy rfl rfl rfl ?_; refine Qy rfl rfl rfl ?_; refine Qy rfl rfl rfl ?_; refine Qy rfl rfl rfl ?_; refine QU rfl rfl rfl rfl ?_; refine Qx rfl rfl rfl ?_; refine Qy rfl rfl rfl ?_; refine Qy rfl rfl rfl ?_; refine Qy rfl rfl rfl ?_; refine Qy rfl rfl rfl ?_; refine Qy rfl rfl rfl ?_; refine QU rfl rfl rfl rfl ?_; refine Qx rfl rfl rfl ?_; refine Qy rfl rfl rfl ?_; refine Qy rfl rfl rfl ?_; refine Qy rfl rfl rfl ?_; refine Qy rfl rfl rfl ?_; refine Qy rfl rfl rfl ?_; refine Qy rfl rfl rfl ?_; refine Qy rfl rfl rfl ?_; refine QU rfl rfl rfl rfl ?_; refine Qv rfl rfl rfl ?_; refine Qj (hK _ _ (Qz (Q0 ?_))); clear hK K)
    refine QK [_] rfl (Qu rfl QQ) (by rw [no (.inr (.inr (.inr (.inl h4))))]; rfl) rfl
  (refine Q7 (n := 17) rfl rfl rfl rfl rfl (by with_reducible exact lRes) rfl ?_; refine Q7 (n := 17) rfl rfl rfl rfl rfl (by with_reducible exact lRes) rfl ?_)
  refine QW gorTraceOf hTa rfl rfl rfl rfl ?_
  skip
  refine QW gorTraceOf hTb rfl rfl rfl rfl ?_
  refine eqTk ta tb rfl rfl rfl rfl rfl ?_
  (refine QZ rfl rfl rfl rfl ?_; refine Qx rfl rfl rfl ?_)
  refine Q6 26 rfl (fun h5 => ?_) (fun h5 => ?_)
  rotate_left
  · (refine Qy rfl rfl rfl ?_; refine Qy rfl rfl rfl ?_; refine Qy rfl rfl rfl ?_; refine Qy rfl rfl rfl ?_; refine Qy rfl rfl rfl ?_; refine QU rfl rfl rfl rfl ?_; refine Qx rfl rfl rfl ?_; refine Qy rfl rfl rfl ?_; refine Qy rfl rfl rfl ?_; refine Qy rfl rfl rfl ?_; refine Qy rfl rfl rfl ?_; refine Qy rfl rfl rfl ?_; refine QU rfl rfl rfl rfl ?_; refine Qx rfl rfl rfl ?_; refine Qy rfl rfl rfl ?_; refine Qy rfl rfl rfl ?_; refine Qy rfl rfl rfl ?_; refine Qy rfl rfl rfl ?_; refine Qy rfl rfl rfl ?_; refine Qy rfl rfl rfl ?_; refine Qy rfl rfl rfl ?_; refine QU rfl rfl rfl rfl ?_; refine Qv rfl rfl rfl ?_; refine Qj (hK _ _ (Qz (Q0 ?_))); clear hK K)
    refine QK [_] rfl (Qu rfl QQ) (by rw [no (.inr (.inr (.inr (.inr (.inl h5)))))]; rfl) rfl
  (refine QV rfl rfl rfl (by with_reducible first | exact fS0 | exact fS1 | exact fS2 | exact fS3 | exact fS4 | exact fS5 | exact fS6 | exact fS7 | exact fS8 | exact fS9 | exact fS10 | exact fS11 | exact fN0 | exact fN1 | exact fN2 | exact fN3 | exact fN4 | exact fN5) rfl ?_; refine QV rfl rfl rfl (by with_reducible first | exact fS0 | exact fS1 | exact fS2 | exact fS3 | exact fS4 | exact fS5 | exact fS6 | exact fS7 | exact fS8 | exact fS9 | exact fS10 | exact fS11 | exact fN0 | exact fN1 | exact fN2 | exact fN3 | exact fN4 | exact fN5) rfl ?_; refine QJ rfl rfl rfl rfl rfl (by with_reducible first | exact lInt | exact Qa | exact Q5 | exact lRess) rfl ?_; refine QJ rfl rfl rfl rfl rfl (by with_reducible first | exact lInt | exact Qa | exact Q5 | exact lRess) rfl ?_; refine Qk ieql rfl rfl rfl rfl ?_; refine QZ rfl rfl rfl rfl ?_; refine Qx rfl rfl rfl ?_)
  refine Q6 33 rfl (fun h6 => ?_) (fun h6 => ?_)
  rotate_left
  · (refine Qy rfl rfl rfl ?_; refine Qy rfl rfl rfl ?_; refine Qy rfl rfl rfl ?_; refine Qy rfl rfl rfl ?_; refine Qy rfl rfl rfl ?_; refine QU rfl rfl rfl rfl ?_; refine Qx rfl rfl rfl ?_; refine Qy rfl rfl rfl ?_; refine Qy rfl rfl rfl ?_; refine Qy rfl rfl rfl ?_; refine Qy rfl rfl rfl ?_; refine Qy rfl rfl rfl ?_; refine Qy rfl rfl rfl ?_; refine Qy rfl rfl rfl ?_; refine QU rfl rfl rfl rfl ?_; refine Qv rfl rfl rfl ?_; refine Qj (hK _ _ (Qz (Q0 ?_))); clear hK K)
    refine QK [_] rfl (Qu rfl QQ) (by rw [no (.inr (.inr (.inr (.inr (.inr (.inl h6))))))]; rfl) rfl
  (refine QV rfl rfl rfl (by with_reducible first | exact fS0 | exact fS1 | exact fS2 | exact fS3 | exact fS4 | exact fS5 | exact fS6 | exact fS7 | exact fS8 | exact fS9 | exact fS10 | exact fS11 | exact fN0 | exact fN1 | exact fN2 | exact fN3 | exact fN4 | exact fN5) rfl ?_; refine QV rfl rfl rfl (by with_reducible first | exact fS0 | exact fS1 | exact fS2 | exact fS3 | exact fS4 | exact fS5 | exact fS6 | exact fS7 | exact fS8 | exact fS9 | exact fS10 | exact fS11 | exact fN0 | exact fN1 | exact fN2 | exact fN3 | exact fN4 | exact fN5) rfl ?_; refine QJ rfl rfl rfl rfl rfl (by with_reducible first | exact lInt | exact Qa | exact Q5 | exact lRess) rfl ?_; refine QJ rfl rfl rfl rfl rfl (by with_reducible first | exact lInt | exact Qa | exact Q5 | exact lRess) rfl ?_; refine Qk ieql rfl rfl rfl rfl ?_; refine QZ rfl rfl rfl rfl ?_; refine Qx rfl rfl rfl ?_)
  refine Q6 40 rfl (fun h7 => ?_) (fun h7 => ?_)
  rotate_left
  · (refine Qy rfl rfl rfl ?_; refine Qy rfl rfl rfl ?_; refine Qy rfl rfl rfl ?_; refine Qy rfl rfl rfl ?_; refine Qy rfl rfl rfl ?_; refine Qy rfl rfl rfl ?_; refine Qy rfl rfl rfl ?_; refine QU rfl rfl rfl rfl ?_; refine Qv rfl rfl rfl ?_; refine Qj (hK _ _ (Qz (Q0 ?_))); clear hK K)
    refine QK [_] rfl (Qu rfl QQ) (by rw [no (.inr (.inr (.inr (.inr (.inr (.inr (.inl h7)))))))]; rfl) rfl
  (refine QV rfl rfl rfl (by with_reducible first | exact fS0 | exact fS1 | exact fS2 | exact fS3 | exact fS4 | exact fS5 | exact fS6 | exact fS7 | exact fS8 | exact fS9 | exact fS10 | exact fS11 | exact fN0 | exact fN1 | exact fN2 | exact fN3 | exact fN4 | exact fN5) rfl ?_; refine X7 rfl rfl (by with_reducible first | exact fN0 | exact fN1 | exact fN2 | exact fN3 | exact fN4 | exact fN5) rfl ?_; refine QV rfl rfl rfl (by with_reducible first | exact fS0 | exact fS1 | exact fS2 | exact fS3 | exact fS4 | exact fS5 | exact fS6 | exact fS7 | exact fS8 | exact fS9 | exact fS10 | exact fS11 | exact fN0 | exact fN1 | exact fN2 | exact fN3 | exact fN4 | exact fN5) rfl ?_; refine X7 rfl rfl (by with_reducible first | exact fN0 | exact fN1 | exact fN2 | exact fN3 | exact fN4 | exact fN5) rfl ?_; refine QJ rfl rfl rfl rfl rfl (by with_reducible first | exact lInt | exact Qa | exact Q5 | exact lRess) rfl ?_; refine QJ rfl rfl rfl rfl rfl (by with_reducible first | exact lInt | exact Qa | exact Q5 | exact lRess) rfl ?_; refine Qk ineq rfl rfl rfl rfl ?_; refine QZ rfl rfl rfl rfl ?_; refine Qv rfl rfl rfl ?_; refine Qj (hK _ _ (Qz (Q0 ?_))); clear hK K)
  by_cases h8 : a.fr = b.fr
  · refine QK [_] rfl (Qu rfl QQ) (by rw [no (.inr (.inr (.inr (.inr (.inr (.inr (.inr (h8)))))))), h8]; simp; rfl) rfl
  · refine QK [_] rfl (Qu rfl QQ) (by rw [yes h1 h2 h3 h4 h5 h6 h7 h8, decide_eq_true (show ((a.fr.val : Int) ≠ (b.fr.val : Int)) from fun h => h8 (_root_.Fin.ext (by omega)))]; rfl) rfl
def pwB (l : List Rs) : Bool := decide (∀ k, k < l.length → ∀ j, j < k → conB (l.getD j rs0) (l.getD k rs0) = false)
theorem conB_symm (a b : Rs) : conB a b = conB b a := by
  unfold conB
  rw [Bool.and_comm (plB a), decide_eq_decide.2 (show plS a = plS b ↔ plS b = plS a from eq_comm), decide_eq_decide.2 (show a.fr ≠ b.fr ↔ b.fr ≠ a.fr from ne_comm)]
theorem conB_self (a : Rs) : conB a a = false := by
  unfold conB; rw [decide_eq_false (show ¬ (a.fr ≠ a.fr) from fun h => h rfl)]; simp
theorem pw_all {l : List Rs} (h : pwB l = true) : ∀ a ∈ l, ∀ b ∈ l, conB a b = false := by
  have h := of_decide_eq_true h
  intro a ha b hb
  obtain ⟨j, hj, rfl⟩ := List.getElem_of_mem ha
  obtain ⟨k, hk, rfl⟩ := List.getElem_of_mem hb
  have ej : l.getD j rs0 = l[j] := by simp [List.getD_eq_getElem?_getD, List.getElem?_eq_getElem hj]
  have ek : l.getD k rs0 = l[k] := by simp [List.getD_eq_getElem?_getD, List.getElem?_eq_getElem hk]
  rw [← ej, ← ek]
  rcases Nat.lt_trichotomy j k with q | q | q
  · exact h k hk j q
  · rw [q]; exact conB_self _
  · rw [conB_symm]; exact h j hj k q
theorem cons_all {l : List Rs} (h : ∀ a ∈ l, ∀ b ∈ l, conB a b = false) : consB l = true := by
  rw [consB_iff]
  refine List.Pairwise.imp_of_mem (R := fun _ _ => True) (fun {a b} ha hb _ => h a ?_ b ?_) (List.pairwise_of_forall (fun _ _ => trivial))
  · exact (List.mem_filter.1 (((Zt ordR (l.filter okR)).2 a).1 ha)).1
  · exact (List.mem_filter.1 (((Zt ordR (l.filter okR)).2 b).1 hb)).1
theorem goConsistentR : InGo Tryz.prog 41 := InGo.of Tryz.func41 rfl (by decide)
set_option maxHeartbeats 8000000 in
theorem rConsistent_ok (l : List Rs) (hl : l.length ≤ 100000) : Ok Tryz.prog 41 [rssC l] (boolC (pwB l)) := by
  have yes : (∀ k, k < l.length → ∀ j, j < k → conB (l.getD j rs0) (l.getD k rs0) = false) → pwB l = true := fun h => decide_eq_true h
  have no : ∀ k j, k < l.length → j < k → conB (l.getD j rs0) (l.getD k rs0) = true → pwB l = false := fun k j h1 h2 h3 => decide_eq_false fun h => by rw [h k h1 j h2] at h3; cases h3
  generalize pwB l = c at yes no ⊢
  refine Ok.enter Tryz.func41 rfl _ Tryz.ntmps41 rfl ?_
  intro S w
  (refine Qw (Qq fun K hK => ?_); refine Qv rfl rfl rfl ?_; refine Qj (hK _ _ (Qz (Qw (Qw ?_)))); clear hK K; refine Qq (fun K hK => ?_); refine Qv rfl rfl rfl ?_; refine Qj (hK _ _ (Qz (Q4 ?_))); clear hK K)
  refine Xj (α := Nat) (fun i => i ≤ l.length ∧ ∀ k, k < i → ∀ j, j < k → conB (l.getD j rs0) (l.getD k rs0) = false)
    (fun i => [(0, .ct (rssC l)), (3, .ct (intC i))]) (fun _ => []) (fun i => l.length - i) 0 ⟨Nat.zero_le _, fun k h => absurd h (Nat.not_lt_zero _)⟩ (by exact QX rfl ⟨rfl, rfl, trivial⟩) ?_
  intro i ⟨hi, hp⟩
  try dsimp only at hi hp ⊢
  (refine Qw (Qw (Qq fun K hK => ?_)); refine Qx rfl rfl rfl ?_; refine Qx rfl rfl rfl ?_; refine Qd rfl rfl (by with_reducible exact sRes.und) (List.length_map ..) rfl ?_; refine Qk ilss rfl rfl rfl rfl ?_; refine Qj (hK _ _ (Qz ?_)); clear hK K)
  refine Q2 rfl (fun h => ?_) (fun h => ?_)
  · (refine Q1 (Qz (Qw (Q4 (Qw (Qq fun K hK => ?_))))); refine Qv rfl rfl rfl ?_; refine Qj (hK _ _ (Qz (Q4 ?_))); clear hK K)
    refine Xj (α := Nat) (fun k => k ≤ i ∧ ∀ j, j < k → conB (l.getD j rs0) (l.getD i rs0) = false)
      (fun k => [(0, .ct (rssC l)), (3, .ct (intC i)), (4, .ct (intC k))]) (fun _ => []) (fun k => i - k) 0 ⟨Nat.zero_le _, fun k h => absurd h (Nat.not_lt_zero _)⟩ (by exact QX rfl ⟨rfl, rfl, rfl, trivial⟩) ?_
    intro k ⟨hk, hp2⟩
    try dsimp only at hk hp2 ⊢
    (refine Qw (Qw (Qq fun K hK => ?_)); refine Qx rfl rfl rfl ?_; refine Qx rfl rfl rfl ?_; refine Qk ilss rfl rfl rfl rfl ?_; refine Qj (hK _ _ (Qz ?_)); clear hK K)
    refine Q2 rfl (fun h2 => ?_) (fun h2 => ?_)
    · have e2 : (i : Int).toNat = i := Int.toNat_natCast i
      have e3 : (k : Int).toNat = k := Int.toNat_natCast k
      have hN := no i k (by omega) (by omega)
      have hC := rContradict_ok (l.getD k rs0) (l.getD i rs0)
      generalize hcc : conB (l.getD k rs0) (l.getD i rs0) = cc at hN hC
      (refine Q1 (Qz (Qw (Q4 (Qw ?_)))))
      refine Xu (by with_reducible exact mixed) 9 (.p 0 (.p 1 (.p 2 (.p 4 (.p 5 (.p 6 (.f 3 (.f 7 (.m 8 .done))))))))) (by kernel_rfl) (fun K hK => ?_)
      (refine Qx rfl rfl rfl ?_; refine Qx rfl rfl rfl ?_; refine Ql rfl rfl rfl (by with_reducible exact sRes) (by omega) (Z9 (by omega) (by omega)) rfl ?_; refine Qx rfl rfl rfl ?_; refine Qx rfl rfl rfl ?_; refine Ql rfl rfl rfl (by with_reducible exact sRes) (by omega) (Z9 (by omega) (by omega)) rfl ?_; refine XW (n := 17) rfl rfl rfl (by with_reducible exact lRes) rfl rfl ?_; refine XW (n := 17) rfl rfl rfl (by with_reducible exact lRes) rfl rfl ?_)
      rw [e2, e3]
      refine QW goContradictR hC rfl rfl rfl rfl ?_
      (refine Qj (hK _ _ (Qz ?_)); clear hK K)
      refine Xy rfl (fun h3 => ?_) (fun h3 => ?_)
      · (refine Qw (Qq fun K hK => ?_); refine Qv rfl rfl rfl ?_; refine Qj (hK _ _ (Qz (Q0 (Q8 (QY (QY (Q8 (Q8 (QY (QY (Q8 (QY ?_)))))))))))); clear hK K)
        refine QK [_] rfl (Qu rfl QQ) (by rw [hN h3]; rfl) rfl
      · (refine Q1 (Qz (Qq fun K hK => ?_)); refine Qx rfl rfl rfl ?_; refine Qk (iadd (by omega) (by omega)) rfl rfl rfl rfl ?_; refine Qv rfl rfl rfl ?_; refine Qj (hK _ _ (Q3 ?_)); clear hK K)
        refine Q9 (k + 1) (by omega) ⟨by omega, fun j hj => ?_⟩ (by exact QX rfl ⟨rfl, rfl, by simp only [Int.natCast_add]; rfl, trivial⟩)
        by_cases hjk : j = k
        · rw [hjk, hcc]; exact h3
        · exact hp2 j (by omega)
    · (refine Qp (Qz (Qq fun K hK => ?_)); refine Qx rfl rfl rfl ?_; refine Qk (iadd (by omega) (by omega)) rfl rfl rfl rfl ?_; refine Qv rfl rfl rfl ?_; refine Qj (hK _ _ (Q3 ?_)); clear hK K)
      refine Q9 (i + 1) (by omega) ⟨by omega, fun q hq j hj => ?_⟩ (by exact QX rfl ⟨rfl, by simp only [Int.natCast_add]; rfl, trivial⟩)
      by_cases hqi : q = i
      · rw [hqi] at hj ⊢; exact hp2 j (by omega)
      · exact hp q (by omega) j hj
  · (refine Qp (Qz (Qw (Qq fun K hK => ?_))); refine Qv rfl rfl rfl ?_; refine Qj (hK _ _ (Qz (Q0 ?_))); clear hK K)
    refine QK [_] rfl (Qu rfl QQ) (by rw [yes (fun k h1 j h2 => hp k (by omega) j h2)]; rfl) rfl
end Go.Proofs.YtlkdkbdgnjcopaaGreat
namespace Go.Proofs.YtlkdkbdgnjcopaaGreat
open Go.Own Go.Limbs
structure Dat (d : List (Int × Int)) : Prop where
  ok : ∀ p ∈ d, 1 ≤ p.1 ∧ p.1 ≤ 3 ∧ 0 ≤ p.2 ∧ p.2 ≤ p.1
  hs : ∀ t : Int, 1 ≤ t → t ≤ 3 → t ≤ d.length → (t, 0) ∈ d
def hereP (w : Int) (p : Int × Int) : Bool := decide (w ≤ p.1) && (decide (p.2 = 0) == false) && decide (p.2 = w)
def othP (w : Int) (p : Int × Int) : Bool := decide (w ≤ p.1) && (decide (p.2 = 0) == false) && !decide (p.2 = w)
def hereF (w : Int) (d : List (Int × Int)) : Nat := d.countP (hereP w)
def othF (w : Int) (d : List (Int × Int)) : Nat := d.countP (othP w)
theorem take_snoc {α : Type} {z : α} {l : List α} {i : Nat} (h : i < l.length) : l.take (i + 1) = l.take i ++ [l.getD i z] := by
  rw [List.take_add_one, List.getElem?_eq_getElem h]; simp [List.getD_eq_getElem?_getD, List.getElem?_eq_getElem h]
attribute [local irreducible] Go.Own.Fin Ok OkB OkF OkL OkM OkN OkT Ops St
theorem ones_rss : ∀ l : List Rs, ones (rss l) = true
  | [] => rfl
  | r :: l => by
    have := ones_rss l
    show ones (rsCs r ++ rss l) = true
    simp only [rsCs, List.cons_append, List.nil_append, ones, CT.one, Value.oneCell', Bool.true_and, this]
theorem goDConsistent : InGo Tryz.prog 16 := InGo.of Tryz.func16 rfl (by decide)
set_option maxHeartbeats 8000000 in
theorem DConsistent_ok (bs : List Int) (p : Nat) (most : Int) (h0 : 0 ≤ most) (h1 : most ≤ 100) (hb : Bytes bs) : OkB Tryz.prog 16 78 (codes bs p) [intC most] (fun q : List Rs × Nat => (q.1.length : Int) ≤ most ∧ pwB q.1 = true ∧ (∀ r ∈ q.1, okR r = true) ∧ q.1.Pairwise fun a b => ¬ (a.va = b.va ∧ a.nu = b.nu)) (fun q => rssC q.1) (fun q => codes bs q.2) := by
  refine OkB.enter Tryz.func16 rfl _ Tryz.ntmps16 rfl ?_
  intro S w g
  (refine Qw (Qq fun K hK => ?_); refine Qv rfl rfl rfl ?_; refine Qj (hK _ _ (Qz (Qw ?_))); clear hK K; refine Qq (fun K hK => ?_); refine Qx rfl rfl rfl ?_; refine Qx rfl rfl rfl ?_)
  refine Xw goResults (Results_ok bs p most true h0 h1 hb) rfl rfl rfl rfl rfl (fun q hq => ?_)
  obtain ⟨x, p1⟩ := q
  dsimp only at hq ⊢
  obtain ⟨hq, hokR, hunR⟩ := hq
  (refine Qv rfl rfl rfl ?_; refine Qj (hK _ _ (Qz (Qw ?_))); clear hK K; refine Qq (fun K hK => ?_); refine Qv rfl rfl rfl ?_; refine Qj (hK _ _ (Qz (Qw (Qw ?_)))); clear hK K; refine Qq (fun K hK => ?_); refine Qv rfl rfl rfl ?_; refine Qj (hK _ _ (Qz (Q4 ?_))); clear hK K)
  refine Xe 6 2 35 17 rfl rfl rfl ?_
  refine Xj (α := Nat × List Rs) (fun q => q.1 ≤ x.length ∧ q.2.Sublist (x.take q.1) ∧ (q.2 ≠ [] → pwB q.2 = true))
    (fun q => [(0, .own 0), (5, .ct (rssC x)), (6, .own 2), (7, .ct (intC q.1))]) (fun q => [(2, .row 35 17 (rss q.2)), (0, .box 78 (codes bs p1))])
    (fun q => x.length - q.1) (0, []) ⟨Nat.zero_le _, List.nil_sublist _, fun h => absurd rfl h⟩ (by exact QX rfl ⟨rfl, rfl, rfl, rfl, trivial⟩) ?_
  intro ⟨i, out⟩ ⟨hi, hsub, hco⟩
  try dsimp only at hi hsub hco ⊢
  (refine Qw (Qw (Qq fun K hK => ?_)); refine Qx rfl rfl rfl ?_; refine Qx rfl rfl rfl ?_; refine Qd rfl rfl (by with_reducible first | exact sAdrs.und | exact sPths.und | exact sRes.und) (List.length_map ..) rfl ?_; refine Qk ilss rfl rfl rfl rfl ?_; refine Qj (hK _ _ (Qz ?_)); clear hK K)
  refine Q2 rfl (fun h => ?_) (fun h => ?_)
  · have e2 : (i : Int).toNat = i := Int.toNat_natCast i
    have hsn := take_snoc (z := rs0) (l := x) (i := i) (by omega)
    have hol := hsub.length_le
    rw [List.length_take] at hol
    generalize hc : x.getD i rs0 = c at hsn
    (refine Q1 (Qz (Qw (Q4 (Qw ?_)))))
    refine St.drawQ (by with_reducible exact mixed) [1, 7] (.p 0 (.p 2 (.p 3 (.p 4 (.a 1 (.f 5 (.m 6 (.a 7 (.m 8 .done .non) .non) .non)) (.m 5 (.a 1 (.m 6 (.a 7 (.m 8 .done .non) .non) .non) (.m 6 (.a 1 (.a 7 (.m 8 .done .non) .non) .non) .non)) .non)))))) (by kernel_rfl) (fun K hK => ?_)
    refine YY ?_
    refine Qx rfl rfl rfl ?_
    refine Qj ?_
    refine YY ?_
    refine Qx rfl rfl rfl ?_
    refine Qj ?_
    refine YY ?_
    refine Qx rfl rfl rfl ?_
    refine Qj ?_
    refine YY ?_
    refine Ql rfl rfl rfl (by with_reducible exact sRes) (by omega) (Z9 (by omega) (by omega)) rfl ?_
    rw [e2, hc]
    refine Qj ?_
    refine XV ?_ ?_
    · refine Ops.appRow 5 out.length rfl rfl rfl rfl (by with_reducible exact sRes) (Xt out) (ones_rss out) (by omega) (by omega) rfl rfl rfl ?_
      refine Qj ?_
      refine Xr ?_
      refine XW (n := 17) rfl rfl rfl (by with_reducible exact lRes) rfl rfl ?_
      refine Qj ?_
      refine Xo ?_ Qr
      refine X4 (n := 17) rfl rfl (by with_reducible exact sRes) rfl rfl (by decide) rfl ?_
      refine Qj ?_
      refine XV ?_ Qr
      refine Qt out.length (rss (out ++ [c])) rfl rfl rfl rfl (by with_reducible exact sRes) (Xt out) rfl (by omega) (by omega) (Zi out c) rfl ?_
      refine Ops.frz 5 _ rfl (Xn _ _) (Yk rfl) ?_
      refine Qj ?_
      refine Xo ?_ Qr
      refine QW goConsistentR (rConsistent_ok (out ++ [c]) (by rw [List.length_append, List.length_singleton]; omega)) rfl rfl rfl rfl ?_
      refine Qj ?_
      refine XY (hK _ _ ?_)
      (refine Qz ?_)
      refine Xy rfl (fun h2 => ?_) (fun h2 => ?_)
      · (refine Qq (fun K hK => ?_); refine Qx rfl rfl rfl ?_; refine Qx rfl rfl rfl ?_; refine Qx rfl rfl rfl ?_)
        refine Ql rfl rfl rfl (by with_reducible exact sRes) (by omega) (Z9 (by omega) (by omega)) rfl ?_
        rw [e2, hc]
        refine XW (n := 17) rfl rfl rfl (by with_reducible exact lRes) rfl rfl ?_
        refine X4 (n := 17) rfl rfl (by with_reducible exact sRes) rfl rfl (by decide) rfl ?_
        refine Qt out.length (rss (out ++ [c])) rfl rfl rfl rfl (by with_reducible exact sRes) (Xt out) rfl (by omega) (by omega) (Zi out c) rfl ?_
        (refine Qv rfl rfl rfl ?_; refine Qj (hK _ _ (Qz ?_)); clear hK K; refine Qq (fun K hK => ?_); refine Qx rfl rfl rfl ?_; refine Qk (iadd (by omega) (by omega)) rfl rfl rfl rfl ?_; refine Qv rfl rfl rfl ?_; refine Qj (hK _ _ (Q3 ?_)); clear hK K)
        refine Q9 (i + 1, out ++ [c]) (by dsimp only; omega) ⟨by dsimp only; omega, by rw [hsn]; exact hsub.append (List.Sublist.refl _), fun _ => h2⟩ (by exact QX rfl ⟨rfl, rfl, rfl, by simp only [Int.natCast_add]; rfl, trivial⟩)
      · (refine Q1 (Qz (Qq fun K hK => ?_)); refine Qx rfl rfl rfl ?_; refine Qk (iadd (by omega) (by omega)) rfl rfl rfl rfl ?_; refine Qv rfl rfl rfl ?_; refine Qj (hK _ _ (Q3 ?_)); clear hK K)
        refine Q9 (i + 1, out) (by dsimp only; omega) ⟨by dsimp only; omega, by rw [hsn]; exact hsub.trans (List.sublist_append_left _ _), hco⟩ (by exact QX rfl ⟨rfl, rfl, rfl, by simp only [Int.natCast_add]; rfl, trivial⟩)
    refine Xo ?_ Qr
    refine XW (n := 17) rfl rfl rfl (by with_reducible exact lRes) rfl rfl ?_
    refine Qj ?_
    refine XV ?_ ?_
    · refine Ops.appRow 5 out.length rfl rfl rfl rfl (by with_reducible exact sRes) (Xt out) (ones_rss out) (by omega) (by omega) rfl rfl rfl ?_
      refine Qj ?_
      refine Xo ?_ Qr
      refine X4 (n := 17) rfl rfl (by with_reducible exact sRes) rfl rfl (by decide) rfl ?_
      refine Qj ?_
      refine XV ?_ Qr
      refine Qt out.length (rss (out ++ [c])) rfl rfl rfl rfl (by with_reducible exact sRes) (Xt out) rfl (by omega) (by omega) (Zi out c) rfl ?_
      refine Ops.frz 5 _ rfl (Xn _ _) (Yk rfl) ?_
      refine Qj ?_
      refine Xo ?_ Qr
      refine QW goConsistentR (rConsistent_ok (out ++ [c]) (by rw [List.length_append, List.length_singleton]; omega)) rfl rfl rfl rfl ?_
      refine Qj ?_
      refine XY (hK _ _ ?_)
      (refine Qz ?_)
      refine Xy rfl (fun h2 => ?_) (fun h2 => ?_)
      · (refine Qq (fun K hK => ?_); refine Qx rfl rfl rfl ?_; refine Qx rfl rfl rfl ?_; refine Qx rfl rfl rfl ?_)
        refine Ql rfl rfl rfl (by with_reducible exact sRes) (by omega) (Z9 (by omega) (by omega)) rfl ?_
        rw [e2, hc]
        refine XW (n := 17) rfl rfl rfl (by with_reducible exact lRes) rfl rfl ?_
        refine X4 (n := 17) rfl rfl (by with_reducible exact sRes) rfl rfl (by decide) rfl ?_
        refine Qt out.length (rss (out ++ [c])) rfl rfl rfl rfl (by with_reducible exact sRes) (Xt out) rfl (by omega) (by omega) (Zi out c) rfl ?_
        (refine Qv rfl rfl rfl ?_; refine Qj (hK _ _ (Qz ?_)); clear hK K; refine Qq (fun K hK => ?_); refine Qx rfl rfl rfl ?_; refine Qk (iadd (by omega) (by omega)) rfl rfl rfl rfl ?_; refine Qv rfl rfl rfl ?_; refine Qj (hK _ _ (Q3 ?_)); clear hK K)
        refine Q9 (i + 1, out ++ [c]) (by dsimp only; omega) ⟨by dsimp only; omega, by rw [hsn]; exact hsub.append (List.Sublist.refl _), fun _ => h2⟩ (by exact QX rfl ⟨rfl, rfl, rfl, by simp only [Int.natCast_add]; rfl, trivial⟩)
      · (refine Q1 (Qz (Qq fun K hK => ?_)); refine Qx rfl rfl rfl ?_; refine Qk (iadd (by omega) (by omega)) rfl rfl rfl rfl ?_; refine Qv rfl rfl rfl ?_; refine Qj (hK _ _ (Q3 ?_)); clear hK K)
        refine Q9 (i + 1, out) (by dsimp only; omega) ⟨by dsimp only; omega, by rw [hsn]; exact hsub.trans (List.sublist_append_left _ _), hco⟩ (by exact QX rfl ⟨rfl, rfl, rfl, by simp only [Int.natCast_add]; rfl, trivial⟩)
    refine Xo ?_ Qr
    refine X4 (n := 17) rfl rfl (by with_reducible exact sRes) rfl rfl (by decide) rfl ?_
    refine Qj ?_
    refine XV ?_ Qr
    refine Ops.appRow 5 out.length rfl rfl rfl rfl (by with_reducible exact sRes) (Xt out) (ones_rss out) (by omega) (by omega) rfl rfl rfl ?_
    refine Qj ?_
    refine XV ?_ Qr
    refine Qt out.length (rss (out ++ [c])) rfl rfl rfl rfl (by with_reducible exact sRes) (Xt out) rfl (by omega) (by omega) (Zi out c) rfl ?_
    refine Ops.frz 5 _ rfl (Xn _ _) (Yk rfl) ?_
    refine Qj ?_
    refine Xo ?_ Qr
    refine QW goConsistentR (rConsistent_ok (out ++ [c]) (by rw [List.length_append, List.length_singleton]; omega)) rfl rfl rfl rfl ?_
    refine Qj ?_
    refine XY (hK _ _ ?_)
    (refine Qz ?_)
    refine Xy rfl (fun h2 => ?_) (fun h2 => ?_)
    · (refine Qq (fun K hK => ?_); refine Qx rfl rfl rfl ?_; refine Qx rfl rfl rfl ?_; refine Qx rfl rfl rfl ?_)
      refine Ql rfl rfl rfl (by with_reducible exact sRes) (by omega) (Z9 (by omega) (by omega)) rfl ?_
      rw [e2, hc]
      refine XW (n := 17) rfl rfl rfl (by with_reducible exact lRes) rfl rfl ?_
      refine X4 (n := 17) rfl rfl (by with_reducible exact sRes) rfl rfl (by decide) rfl ?_
      refine Qt out.length (rss (out ++ [c])) rfl rfl rfl rfl (by with_reducible exact sRes) (Xt out) rfl (by omega) (by omega) (Zi out c) rfl ?_
      (refine Qv rfl rfl rfl ?_; refine Qj (hK _ _ (Qz ?_)); clear hK K; refine Qq (fun K hK => ?_); refine Qx rfl rfl rfl ?_; refine Qk (iadd (by omega) (by omega)) rfl rfl rfl rfl ?_; refine Qv rfl rfl rfl ?_; refine Qj (hK _ _ (Q3 ?_)); clear hK K)
      refine Q9 (i + 1, out ++ [c]) (by dsimp only; omega) ⟨by dsimp only; omega, by rw [hsn]; exact hsub.append (List.Sublist.refl _), fun _ => h2⟩ (by exact QX rfl ⟨rfl, rfl, rfl, by simp only [Int.natCast_add]; rfl, trivial⟩)
    · (refine Q1 (Qz (Qq fun K hK => ?_)); refine Qx rfl rfl rfl ?_; refine Qk (iadd (by omega) (by omega)) rfl rfl rfl rfl ?_; refine Qv rfl rfl rfl ?_; refine Qj (hK _ _ (Q3 ?_)); clear hK K)
      refine Q9 (i + 1, out) (by dsimp only; omega) ⟨by dsimp only; omega, by rw [hsn]; exact hsub.trans (List.sublist_append_left _ _), hco⟩ (by exact QX rfl ⟨rfl, rfl, rfl, by simp only [Int.natCast_add]; rfl, trivial⟩)
  · have hi' : i = x.length := by omega
    have hol := hsub.length_le
    rw [List.length_take] at hol
    (refine Qp (Qz (Qw (Qq fun K hK => ?_))); refine Qx rfl rfl rfl ?_; refine Qv rfl rfl rfl ?_; refine Qj (hK _ _ (Qz (Q0 ?_))); clear hK K)
    refine Fin.frz 2 _ rfl (Xn _ _) (Yk rfl) ?_
    refine Yz (out, p1) [_] rfl (Qu rfl QQ) rfl rfl ⟨by dsimp only; omega, ?_, fun r hr => hokR r (List.mem_of_mem_take (hsub.subset hr)), hunR.sublist (hsub.trans (List.take_sublist _ _))⟩
    by_cases ho : out = []
    · subst ho; exact decide_eq_true fun k h => absurd h (Nat.not_lt_zero _)
    · exact hco ho
end Go.Proofs.YtlkdkbdgnjcopaaGreat
namespace Go.Own
open Go.RowKit
variable {X : Ctx} {L : AL} {B : BL} {ops : Array Oper} {K : Act → World → Prop} {r : Pl} {k : Kd}
  {x y z : Operand} {d : Nat} {t t2 t' : TypeId} {pos : String} {af : Array Edge} {g : Option (Nat × Bool)}
abbrev SofB (X : Ctx) (B : BL) (ρ : Nat → Value) (i : Nat) : BSet := fun k => Sof X B ρ k ∨ blk (ρ i) = some k
end Go.Own
namespace Go.Proofs.YtlkdkbdgnjcopaaGreat
open Go.Own Go.Limbs
attribute [local irreducible] St Ops Go.Own.Fin Ok OkB OkN OkT OkL OkF
def idxQ {α : Type} (p : α → Bool) (xs : List α) : Int := if xs.any p then (xs.findIdx p : Nat) else -1
end Go.Proofs.YtlkdkbdgnjcopaaGreat
namespace Go.Proofs.YtlkdkbdgnjcopaaGreat
open Go.Own Go.Limbs
attribute [local irreducible] Go.Own.Fin Ok OkB OkF OkL OkN OkT Ops St
attribute [local irreducible] OkM
def posT (out : List Tk) (t : Tk) : Nat := (out.takeWhile fun x => decide (cmpT x t < 0)).length
def insT (out : List Tk) (t : Tk) : List Tk := if posT out t < out.length ∧ out.getD (posT out t) tk0 = t then out else out.take (posT out t) ++ t :: out.drop (posT out t)
def trR (out : List Tk) (l : List Rs) : List Tk := l.foldl (fun out r => if okR r = true then insT out (trOf r) else out) out
structure OneL (st : Bool) (most : Int) (l : List Rs) : Prop where
  len : (l.length : Int) ≤ most
  ok : ∀ r ∈ l, okR r = true
  tr : ∃ t, ∀ r ∈ l, trOf r = t
  up : Up cmpR l
  pw : st = true → pwB l = true
end Go.Proofs.YtlkdkbdgnjcopaaGreat
namespace Go.Limbs
def trimL : List Int → List Int
  | [] => []
  | x :: xs => match trimL xs with
    | [] => if x = 0 then [] else [x]
    | y :: ys => x :: y :: ys
theorem trim_snoc (ys : List Int) : trimL (ys ++ [0]) = trimL ys := by
  induction ys with
  | nil => simp [trimL]
  | cons y ys ih => simp only [List.cons_append, trimL, ih]
theorem trim_id {ys : List Int} {z : Int} (hz : z ≠ 0) : trimL (ys ++ [z]) = ys ++ [z] := by
  induction ys with
  | nil => simp [trimL, hz]
  | cons y ys ih =>
    simp only [List.cons_append, trimL, ih]
    cases ys <;> rfl
theorem trim_last {ys : List Int} (h : 0 < ys.length) (h0 : ys.getD (ys.length - 1) 0 = 0) : trimL (ys.take (ys.length - 1)) = trimL ys := by
  obtain ⟨zs, z, rfl⟩ : ∃ zs z, ys = zs ++ [z] := ⟨ys.dropLast, ys.getLast (by intro e; subst e; simp at h), (List.dropLast_concat_getLast _).symm⟩; simp at h0; subst h0; rw [trim_snoc]; simp
theorem trim_done {ys : List Int} (h : 0 < ys.length → ys.getD (ys.length - 1) 0 ≠ 0) : trimL ys = ys := by
  rcases Nat.eq_zero_or_pos ys.length with h0 | h0
  · have : ys = [] := List.eq_nil_of_length_eq_zero h0; subst this; rfl
  · obtain ⟨zs, z, rfl⟩ : ∃ zs z, ys = zs ++ [z] := ⟨ys.dropLast, ys.getLast (by intro e; subst e; simp at h0), (List.dropLast_concat_getLast _).symm⟩; have := h h0; simp at this; exact trim_id this
theorem trim_len (xs : List Int) : (trimL xs).length ≤ xs.length := by
  induction xs with
  | nil => simp [trimL]
  | cons x xs ih =>
    simp only [trimL]; split
    · split <;> simp
    · rename_i y ys e; rw [e] at ih; simp at ih ⊢; omega
end Go.Limbs
namespace Go.Proofs.YtlkdkbdgnjcopaaGreat
open Go.Own Go.Limbs
def idxI {α : Type} (p : α → Bool) (xs : List α) : Int := if xs.any p then (xs.findIdx p : Nat) else -1
theorem idxI_hit {α : Type} {p : α → Bool} {xs : List α} {z : α} {i : Nat} (h : i < xs.length) (hp : p (xs.getD i z) = true) (hn : ∀ j, j < i → p (xs.getD j z) = false) : idxI p xs = i := by
  have e : ∀ j (hj : j < xs.length), xs.getD j z = xs[j] := fun j hj => by simp [List.getD_eq_getElem?_getD, List.getElem?_eq_getElem hj]
  unfold idxI
  rw [if_pos (List.any_eq_true.mpr ⟨xs[i], List.getElem_mem h, by rw [← e i h]; exact hp⟩)]
  congr 1
  rw [List.findIdx_eq h]
  exact ⟨by rw [← e i h]; exact hp, fun j hj => by rw [← e j (by omega)]; exact hn j hj⟩
theorem idxI_miss {α : Type} {p : α → Bool} {xs : List α} {z : α} (hn : ∀ j, j < xs.length → p (xs.getD j z) = false) : idxI p xs = -1 := by
  have e : ∀ j (hj : j < xs.length), xs.getD j z = xs[j] := fun j hj => by simp [List.getD_eq_getElem?_getD, List.getElem?_eq_getElem hj]
  unfold idxI
  rw [if_neg]
  rw [Bool.not_eq_true, List.any_eq_false]
  intro x hx
  obtain ⟨j, hj, rfl⟩ := List.getElem_of_mem hx
  rw [← e j hj, hn j hj]; decide
theorem idxI_any {α : Type} (p : α → Bool) (xs : List α) : decide (0 ≤ idxI p xs) = xs.any p := by
  unfold idxI; split
  · rename_i h; rw [h]; simp
  · rename_i h; simp at h; rw [show decide ((0 : Int) ≤ -1) = false by decide]; symm; rw [List.any_eq_false]; simpa using h
theorem getD_mem {α : Type} {xs : List α} {z : α} {i : Nat} (h : i < xs.length) : xs.getD i z ∈ xs := by
  simp [List.getD_eq_getElem?_getD, List.getElem?_eq_getElem h]
attribute [local irreducible] Go.Own.Fin Ok OkB OkF OkL OkM OkN OkT Ops St
set_option maxHeartbeats 2000000 in
theorem IndexFunc_res (xs : List Rs) (f : FuncId) (p : Rs → Bool) (hgo : InGo Tryz.prog f) (hf : ∀ x ∈ xs, Ok Tryz.prog f [rsC x] (boolC (p x))) (hl : xs.length < 4611686018427387904) : Ok Tryz.prog 113 [rssC xs, (.ex (.func (.func f) #[] #[]))] (intC (idxI p xs)) := by
  refine Ok.enter Tryz.func113 rfl _ Tryz.ntmps113 rfl ?_
  intro S w
  (refine Qw (Qq fun K hK => ?_); refine Qv rfl rfl rfl ?_; refine Qj (hK _ _ (Qz (Qw (Qw ?_)))); clear hK K; refine Qq (fun K hK => ?_); refine Qx rfl rfl rfl ?_; refine Qd rfl rfl (by with_reducible exact sRes.und) (List.length_map ..) rfl ?_; refine Qx rfl rfl rfl ?_; refine Qj (hK _ _ (Qz (Q4 ?_))); clear hK K)
  refine Xj (α := Nat) (fun i => i ≤ xs.length ∧ ∀ j, j < i → p (xs.getD j rs0) = false)
    (fun i => [(0, .ct (rssC xs)), (1, .ct (.ex (.func (.func f) #[] #[]))), (7, .ct (intC xs.length)), (8, .ct (intC i))]) (fun _ => []) (fun i => xs.length - i) 0 ⟨Nat.zero_le _, fun j h => absurd h (Nat.not_lt_zero j)⟩ (by exact QX rfl ⟨rfl, rfl, rfl, rfl, trivial⟩) ?_
  intro i ⟨hi, hv⟩
  dsimp only
  (refine Qw (Qq fun K hK => ?_); refine Qk ilss rfl rfl rfl rfl ?_; refine Qj (hK _ _ (Qz (Qw ?_))); clear hK K)
  refine Q2 rfl (fun h => ?_) (fun h => ?_)
  · have e2 : (i : Int).toNat = i := Int.toNat_natCast i
    (refine Q1 (Qz (Qw (Q4 (Qw (Qq fun K hK => ?_))))); refine Qx rfl rfl rfl ?_; refine Qv rfl rfl rfl ?_; refine Qj (hK _ _ (Qz (Qw ?_))); clear hK K; refine Qq (fun K hK => ?_); refine Qx rfl rfl rfl ?_; refine Qx rfl rfl rfl ?_; refine Qx rfl rfl rfl ?_; refine Ql rfl rfl rfl (by with_reducible exact sRes) (by omega) (Z9 (by omega) (by omega)) rfl ?_; refine XW (n := 17) rfl rfl rfl (by with_reducible exact lRes) rfl rfl ?_)
    try rw [e2]
    skip
    refine Ops.callF hgo rfl (hf _ (getD_mem (by omega))) rfl rfl rfl rfl ?_
    (refine Qj (hK _ _ (Qz ?_)); clear hK K)
    refine Xy rfl (fun h2 => ?_) (fun h2 => ?_)
    · (refine Qw (Qq fun K hK => ?_); refine Qx rfl rfl rfl ?_; refine Qv rfl rfl rfl ?_; refine Qj (hK _ _ (Qz (Q0 (Q8 (QY (QY (Q8 (QY ?_)))))))); clear hK K)
      refine QK [_] rfl (Qu rfl QQ) (by rw [idxI_hit (by omega) h2 hv]; rfl) rfl
    · (refine Q1 (Qz (Qq fun K hK => ?_)); refine Qk (iadd (by omega) (by omega)) rfl rfl rfl rfl ?_; refine Qx rfl rfl rfl ?_; refine Qj (hK _ _ (Q3 ?_)); clear hK K)
      refine Q9 (i + 1) (by omega) ⟨by omega, ?_⟩ (by exact QX rfl ⟨rfl, rfl, rfl, by simp only [Int.natCast_add]; rfl, trivial⟩)
      intro j hj
      rcases Nat.lt_or_ge j i with h3 | h3
      · exact hv j h3
      · have : j = i := by omega
        rw [this]; exact h2
  · have hi' : i = xs.length := by omega
    (refine Qp (Qz (Qw (Qq fun K hK => ?_))); refine Qv rfl rfl rfl ?_; refine Qj (hK _ _ (Qz (Q0 ?_))); clear hK K)
    refine QK [_] rfl (Qu rfl QQ) (by rw [idxI_miss (fun j hj => hv j (by omega))]; rfl) rfl
theorem goIndexFunc_res : InGo Tryz.prog 113 := InGo.of Tryz.func113 (by kernel_rfl) (by kernel_rfl)
theorem ContainsFunc_res (xs : List Rs) (f : FuncId) (p : Rs → Bool) (hgo : InGo Tryz.prog f) (hf : ∀ x ∈ xs, Ok Tryz.prog f [rsC x] (boolC (p x))) (hl : xs.length < 4611686018427387904) : Ok Tryz.prog 71 [rssC xs, (.ex (.func (.func f) #[] #[]))] (boolC (xs.any p)) := by
  refine Ok.enter Tryz.func71 rfl _ Tryz.ntmps71 rfl ?_
  intro S w
  (refine Qw (Qq fun K hK => ?_); refine Qv rfl rfl rfl ?_; refine Qj (hK _ _ (Qz (Qw ?_))); clear hK K; refine Qq (fun K hK => ?_); refine Qx rfl rfl rfl ?_; refine Qx rfl rfl rfl ?_)
  refine QW goIndexFunc_res (IndexFunc_res xs f p hgo hf hl) rfl rfl rfl rfl ?_
  (refine Qk igeq rfl rfl rfl rfl ?_; refine Qv rfl rfl rfl ?_; refine Qj (hK _ _ (Qz (Q0 ?_))); clear hK K)
  refine QK [_] rfl (Qu rfl QQ) (by rw [← idxI_any]; rfl) rfl
theorem goContainsFunc_res : InGo Tryz.prog 71 := InGo.of Tryz.func71 (by kernel_rfl) (by kernel_rfl)
theorem gocheck1 : InGo Tryz.prog 85 := InGo.of Tryz.func85 rfl (by decide)
theorem check1_ok (r : Rs) : Ok Tryz.prog 85 [rsC r] (boolC (!okR r)) := by
  refine Ok.enter Tryz.func85 rfl _ Tryz.ntmps85 rfl ?_
  intro S w
  (refine Qw (Qq fun K hK => ?_); refine Xk 0 rfl rfl rfl rfl rfl rfl rfl ?_; refine Qv rfl rfl rfl ?_; refine Qj (hK _ _ (Qz (Qw ?_))); clear hK K; refine Qq (fun K hK => ?_); refine Q7 (n := 17) rfl rfl rfl rfl rfl (by with_reducible exact lRes) rfl ?_)
  refine QW goValidR (ValidR_ok r) rfl rfl rfl rfl ?_
  (refine Qm rfl rfl rfl ?_; refine Qv rfl rfl rfl ?_; refine Qj (hK _ _ (Qz (Q0 ?_))); clear hK K)
  refine QK [_] rfl (Qu rfl QQ) rfl rfl
set_option maxHeartbeats 4000000 in
theorem Index_wr (xs : List Wr) (q : Wr) (hl : xs.length < 4611686018427387904) : Ok Tryz.prog 109 [wrsC xs, wrC q] (intC (idxI (fun x => decide (q = x)) xs)) := by
  refine Ok.enter Tryz.func109 rfl _ Tryz.ntmps109 rfl ?_
  intro S w
  refine Qw ?_
  refine Qq (fun K hK => ?_)
  refine Xk 0 rfl rfl rfl rfl rfl rfl rfl ?_
  (refine Qv rfl rfl rfl ?_; refine Qj (hK _ _ (Qz (Qw (Qw ?_)))); clear hK K; refine Qq (fun K hK => ?_); refine Qx rfl rfl rfl ?_; refine Qd rfl rfl (by with_reducible first | exact sTks.und | exact sWrs.und | exact sIks.und | exact sAdrs.und) (List.length_map ..) rfl ?_; refine Qx rfl rfl rfl ?_; refine Qj (hK _ _ (Qz (Q4 ?_))); clear hK K)
  refine Xj (α := Nat) (fun i => i ≤ xs.length ∧ ∀ j, j < i → decide (q = xs.getD j wr0) = false)
    (fun i => [(0, .ct (wrsC xs)), (3, .own 0), (7, .ct (intC xs.length)), (8, .ct (intC i))]) (fun _ => [(0, .box 37 (wrCs q))]) (fun i => xs.length - i) 0 ⟨Nat.zero_le _, fun j h => absurd h (Nat.not_lt_zero j)⟩ (by exact QX rfl ⟨rfl, rfl, rfl, rfl, trivial⟩) ?_
  intro i ⟨hi, hv⟩
  dsimp only
  (refine Qw (Qq fun K hK => ?_); refine Qk ilss rfl rfl rfl rfl ?_; refine Qj (hK _ _ (Qz (Qw ?_))); clear hK K)
  refine Q2 rfl (fun h => ?_) (fun h => ?_)
  · have e2 : (i : Int).toNat = i := Int.toNat_natCast i
    (refine Q1 (Qz (Qw (Q4 (Qw (Qq fun K hK => ?_))))); refine Qx rfl rfl rfl ?_; refine Qv rfl rfl rfl ?_; refine Qj (hK _ _ (Qz (Qw ?_))); clear hK K)
    refine ZU (α := Unit) (fun _ => True) (fun _ => [(0, .ct (wrsC xs)), (3, .own 0), (5, .ct (intC i)), (7, .ct (intC xs.length)), (8, .ct (intC i)), (16, .ct (boolC (decide (q = xs.getD i wr0))))]) (fun _ => [(0, .box 37 (wrCs q))]) (fun _ _ => ?_) (fun KN hM => ?_)
    rotate_left
    · refine Xu (by with_reducible exact mixed) 6 (.p 1 (.p 2 (.p 3 (.f 0 (.f 4 (.p 5 .done)))))) (by kernel_rfl) (fun K hK => ?_)
      (refine Qx rfl rfl rfl ?_; refine Qx rfl rfl rfl ?_)
      refine Ql rfl rfl rfl (by with_reducible exact sWrs) (by omega) (wrs_at (by omega) (by omega)) rfl ?_
      rw [e2]
      (refine Q7 (n := 2) rfl rfl rfl rfl rfl (by with_reducible first | exact Yq | exact ZK | exact lCs) rfl ?_)
      refine XW (n := 2) rfl rfl rfl (by with_reducible exact ZK) rfl rfl ?_
      refine eqWr q (xs.getD i wr0) rfl rfl rfl rfl rfl ?_
      (refine Qj (hK _ _ ?_); clear hK K)
      exact Xq hM () trivial (QX rfl ⟨rfl, rfl, rfl, rfl, rfl, rfl, trivial⟩)
    skip
    refine Xy rfl (fun h2 => ?_) (fun h2 => ?_)
    · (refine Qw (Qq fun K hK => ?_); refine Qx rfl rfl rfl ?_; refine Qv rfl rfl rfl ?_; refine Qj (hK _ _ (Qz (Q0 (Q8 (QY (QY (Q8 (QY ?_)))))))); clear hK K)
      refine QK [_] rfl (Qu rfl QQ) (by rw [idxI_hit (p := fun x => decide (q = x)) (by omega) h2 hv]; rfl) rfl
    · (refine Q1 (Qz (Qq fun K hK => ?_)); refine Qk (iadd (by omega) (by omega)) rfl rfl rfl rfl ?_; refine Qx rfl rfl rfl ?_; refine Qj (hK _ _ (Q3 ?_)); clear hK K)
      refine Q9 (i + 1) (by omega) ⟨by omega, ?_⟩ (by exact QX rfl ⟨rfl, rfl, rfl, by simp only [Int.natCast_add]; rfl, trivial⟩)
      intro j hj
      rcases Nat.lt_or_ge j i with h3 | h3
      · exact hv j h3
      · have : j = i := by omega
        rw [this]; exact h2
  · have hi' : i = xs.length := by omega
    (refine Qp (Qz (Qw (Qq fun K hK => ?_))); refine Qv rfl rfl rfl ?_; refine Qj (hK _ _ (Qz (Q0 ?_))); clear hK K)
    refine QK [_] rfl (Qu rfl QQ) (by rw [idxI_miss (p := fun x => decide (q = x)) (z := wr0) (fun j hj => hv j (by omega))]; rfl) rfl
theorem goIndex_wr : InGo Tryz.prog 109 := InGo.of Tryz.func109 (by kernel_rfl) (by kernel_rfl)
theorem Contains_wr (xs : List Wr) (q : Wr) (hl : xs.length < 4611686018427387904) : Ok Tryz.prog 63 [wrsC xs, wrC q] (boolC (decide (q ∈ xs))) := by
  have e : decide (q ∈ xs) = decide (0 ≤ idxI (fun x => decide (q = x)) xs) := by
    rw [idxI_any, Bool.eq_iff_iff, decide_eq_true_eq, List.any_eq_true]
    exact ⟨fun h => ⟨q, h, decide_eq_true rfl⟩, fun ⟨x, h1, h2⟩ => (of_decide_eq_true h2) ▸ h1⟩
  rw [e]
  refine Ok.enter Tryz.func63 rfl _ Tryz.ntmps63 rfl ?_
  intro S w
  refine Qw ?_
  refine Qq (fun K hK => ?_)
  refine Xk 0 rfl rfl rfl rfl rfl rfl rfl ?_
  (refine Qv rfl rfl rfl ?_; refine Qj (hK _ _ (Qz (Qw ?_))); clear hK K; refine Qq (fun K hK => ?_); refine Qx rfl rfl rfl ?_; refine Q7 (n := 2) rfl rfl rfl rfl rfl (by with_reducible first | exact Yq | exact ZK | exact lCs) rfl ?_)
  refine QW goIndex_wr (Index_wr xs q hl) rfl rfl rfl rfl ?_
  (refine Qk igeq rfl rfl rfl rfl ?_; refine Qv rfl rfl rfl ?_; refine Qj (hK _ _ (Qz (Q0 ?_))); clear hK K)
  refine QK [_] rfl (Qu rfl QQ) rfl rfl
theorem goContains_wr : InGo Tryz.prog 63 := InGo.of Tryz.func63 (by kernel_rfl) (by kernel_rfl)
theorem gocheck : InGo Tryz.prog 43 := InGo.of Tryz.func43 rfl (by decide)
theorem check_ok (l : List Rs) (hl : l.length ≤ 10000) : Ok Tryz.prog 43 [rssC l] (intC (chkF l)) := by
  have hC := ContainsFunc_res l _ (fun r => !okR r) gocheck1 (fun x _ => check1_ok x) (by omega)
  have hO := Order_ok l hl
  have hN := Consistent_ok l hl
  have e : chkF l = if (l.any fun r => !okR r) = true then 1 else if 512 < ((sd cmpR (l.filter okR)).length : Int) then 5 else if consB l = true then 0 else 30 := rfl
  have hol : (sd cmpR (l.filter okR)).length ≤ 10000 := by
    have := Zn cmpR (l.filter okR)
    have := List.length_filter_le okR l
    omega
  generalize chkF l = c at e ⊢
  generalize (l.any fun r => !okR r) = b1 at hC e
  generalize sd cmpR (l.filter okR) = o at hO e hol
  generalize consB l = b3 at hN e
  refine Ok.enter Tryz.func43 rfl _ Tryz.ntmps43 rfl ?_
  intro S w
  (refine Qw (Qq fun K hK => ?_); refine Qv rfl rfl rfl ?_; refine Qj (hK _ _ (Qz (Qw (Q4 (Qw ?_))))); clear hK K; refine Qq (fun K hK => ?_); refine Qx rfl rfl rfl ?_)
  refine QW goContainsFunc_res hC rfl rfl rfl rfl ?_
  (refine Qv rfl rfl rfl ?_; refine Qj (hK _ _ (Qz ?_)); clear hK K)
  refine Xy rfl (fun h => ?_) (fun h => ?_)
  · rw [if_pos h] at e
    (refine Qw (Qq fun K hK => ?_); refine Qv rfl rfl rfl ?_; refine Qj (hK _ _ (Qz (Q0 (Q8 (QY ?_))))); clear hK K)
    refine QK [_] rfl (Qu rfl QQ) (by rw [e]; rfl) rfl
  rw [if_neg (by rw [h]; decide)] at e
  (refine Qw (Qq fun K hK => ?_); refine Qx rfl rfl rfl ?_)
  refine Xp 3 goOrder hO rfl rfl rfl rfl rfl rfl ?_
  refine X2 3 _ rfl (Xn _ _) XZ ?_
  (refine Qd rfl rfl (by with_reducible exact sRes.und) (List.length_map ..) rfl ?_; refine Qk igtr rfl rfl rfl rfl ?_; refine Qv rfl rfl rfl ?_; refine Qj (hK _ _ (Qz ?_)); clear hK K)
  refine Q2 rfl (fun h2 => ?_) (fun h2 => ?_)
  · rw [if_pos h2] at e
    (refine Qw (Qq fun K hK => ?_); refine Qv rfl rfl rfl ?_; refine Qj (hK _ _ (Qz (Q0 (Q8 (QY ?_))))); clear hK K)
    refine QK [_] rfl (Qu rfl QQ) (by rw [e]; rfl) rfl
  rw [if_neg h2] at e
  (refine Qw (Qq fun K hK => ?_); refine Qx rfl rfl rfl ?_)
  refine QW goConsistent hN rfl rfl rfl rfl ?_
  (refine Qm rfl rfl rfl ?_; refine Qv rfl rfl rfl ?_; refine Qj (hK _ _ (Qz ?_)); clear hK K)
  refine Xy rfl (fun h3 => ?_) (fun h3 => ?_)
  · rw [if_neg (by simpa using h3)] at e
    (refine Qw (Qq fun K hK => ?_); refine Qv rfl rfl rfl ?_; refine Qj (hK _ _ (Qz (Q0 (Q8 (QY ?_))))); clear hK K)
    refine QK [_] rfl (Qu rfl QQ) (by rw [e]; rfl) rfl
  rw [if_pos (by simpa using h3)] at e
  (refine Q1 (Qz (Qw (Qq fun K hK => ?_))); refine Qv rfl rfl rfl ?_; refine Qj (hK _ _ (Qz (Q0 ?_))); clear hK K)
  refine QK [_] rfl (Qu rfl QQ) (by rw [e]; rfl) rfl
theorem wiresG_len : ∀ (l : List (Fin 4294967296)) (p : Fin 4294967296) (b : Bool), (wiresG p l b).length ≤ l.length
  | [], _, _ => Nat.le_refl _
  | a :: l, p, b => by
    have := wiresG_len l a false
    unfold wiresG
    rw [List.length_append, List.length_cons]
    split <;> simp <;> omega
theorem wayF_len (l : List Rs) (r : Rs) : (wayF l r).length ≤ 256 := by
  have h := pathF_len (ofF l (trOf r)) r.fl
  rw [wayF_eq]
  split
  · simp
  · split
    · have := wiresG_len ((pathF (ofF l (trOf r)) r.fl).take r.tt.toNat) 0 true
      rw [List.length_take] at this
      omega
    · split
      · simp
      · have := wiresG_len (pathF (ofF l (trOf r)) r.fl) 0 true
        omega
def crO (l : List Rs) (w : Wr) : List Ik × List Ik × Int :=
  if ¬ chkF l = 0 then ([], [], chkF l) else if (crsF l w true).length + (crsF l w false).length = 0 then ([], [], 8) else ((crsF l w true).map idOf, (crsF l w false).map idOf, 0)
theorem goCrosses : InGo Tryz.prog 27 := InGo.of Tryz.func27 rfl (by decide)
set_option maxHeartbeats 16000000 in
theorem Crosses_ok (l : List Rs) (hl : l.length ≤ 10000) (w : Wr) : Ok Tryz.prog 27 [rssC l, wrC w] (.fr (tupT [iksC (crO l w).1, iksC (crO l w).2.1, intC (crO l w).2.2])) := by
  have hC := check_ok l hl
  have hT := Travel_ok l hl
  have hO := Order_ok l hl
  have hW := fun v hv r al hal => Way_ok l hl v hv r al hal
  have hwl := wayF_len l
  have e : crO l w = if ¬ chkF l = 0 then ([], [], chkF l) else if ((sd cmpR (l.filter okR)).filter fun r => decide (w ∈ wayF l r) && (r.an == true)).length + ((sd cmpR (l.filter okR)).filter fun r => decide (w ∈ wayF l r) && (r.an == false)).length = 0 then ([], [], 8)
    else (((sd cmpR (l.filter okR)).filter fun r => decide (w ∈ wayF l r) && (r.an == true)).map idOf, ((sd cmpR (l.filter okR)).filter fun r => decide (w ∈ wayF l r) && (r.an == false)).map idOf, 0) := rfl
  have hol : (sd cmpR (l.filter okR)).length ≤ 10000 := by
    have := Zn cmpR (l.filter okR)
    have := List.length_filter_le okR l
    omega
  generalize chkF l = c at hC e
  generalize wayF l = wy at hW e hwl
  generalize sd cmpR (l.filter okR) = o at hO e hol
  generalize crO l w = out at e ⊢
  generalize owF l = om at hT hW
  refine Ok.enter Tryz.func27 rfl _ Tryz.ntmps27 rfl ?_
  intro S w0
  refine Qw ?_
  refine Qq (fun K hK => ?_)
  refine Xk 0 rfl rfl rfl rfl rfl rfl rfl ?_
  (refine Qv rfl rfl rfl ?_; refine Qv rfl rfl rfl ?_; refine Qv rfl rfl rfl ?_; refine Qj (hK _ _ (Qz (Qw (Qw ?_)))); clear hK K; refine Qq (fun K hK => ?_); refine Qx rfl rfl rfl ?_)
  refine QW gocheck hC rfl rfl rfl rfl ?_
  (refine Qv rfl rfl rfl ?_; refine Qj (hK _ _ (Qz (Qw ?_))); clear hK K; refine Qq (fun K hK => ?_); refine Qx rfl rfl rfl ?_; refine Qk ineq rfl rfl rfl rfl ?_; refine Qj (hK _ _ (Qz ?_)); clear hK K)
  refine Q2 rfl (fun h => ?_) (fun h => ?_)
  · rw [if_pos h] at e
    (refine Qw (Qq fun K hK => ?_); refine Qx rfl rfl rfl ?_; refine Qv rfl rfl rfl ?_; refine Qv rfl rfl rfl ?_; refine Qv rfl rfl rfl ?_; refine Qj (hK _ _ (Qz (Q0 (QY ?_)))); clear hK K)
    refine QK [_, _, _] rfl (XX Zx (Qu rfl (XX Zx (Qu rfl (Qu rfl QQ))))) (by rw [e]; rfl) rfl
  rw [if_neg h] at e
  (refine Q1 (Qz (Qw (Qq fun K hK => ?_))); refine Qx rfl rfl rfl ?_)
  refine Ops.callNew 8 gotravel hT rfl rfl rfl (fun _ h => h.elim) rfl rfl rfl (fun v hv => ?_)
  refine Qg 1 rfl rfl (by with_reducible exact zvTrav) rfl rfl rfl ?_
  refine Qc 2 rfl rfl rfl rfl (by show (true && (Value.oneCell' v && true)) = true; rw [hv]; rfl) (by with_reducible exact szTrav) rfl rfl ?_
  (refine Qj (hK _ _ (Qz (Qw ?_))); clear hK K; refine Qq (fun K hK => ?_); refine Qv rfl rfl rfl ?_; refine Qv rfl rfl rfl ?_; refine Qj (hK _ _ (Qz (Qw (Qw ?_)))); clear hK K; refine Qq (fun K hK => ?_); refine Qx rfl rfl rfl ?_)
  refine Xp 3 goOrder hO rfl rfl rfl rfl rfl rfl ?_
  refine X2 3 _ rfl (Xn _ _) XZ ?_
  (refine Qd rfl rfl (by with_reducible exact sRes.und) (List.length_map ..) rfl ?_; refine Qx rfl rfl rfl ?_; refine Qj (hK _ _ (Qz (Q4 ?_))); clear hK K)
  refine Xe 9 2 124 3 rfl rfl rfl ?_
  refine Xe 10 4 124 3 rfl rfl rfl ?_
  refine Xj (α := Nat × KnM) (fun q => q.1 ≤ o.length ∧ knOk l q.2)
    (fun q => [(3, .own 0), (8, .own 1), (9, .own 2), (10, .own 4), (21, .ct (rssC o)), (22, .ct (intC o.length)), (23, .ct (intC q.1))])
    (fun q => [(8, .mpx v (knM q.2)), (4, .row 124 3 (iks (((o.take q.1).filter fun r => decide (w ∈ wy r) && (r.an == false)).map idOf))), (2, .row 124 3 (iks (((o.take q.1).filter fun r => decide (w ∈ wy r) && (r.an == true)).map idOf))), (1, .box 94 [.fr (mapT (owM om)), .ex v]), (0, .box 37 (wrCs w))])
    (fun q => o.length - q.1) (0, []) ⟨Nat.zero_le _, fun _ _ h => by cases h⟩ (Entails.front 8 _ rfl <| by exact QX rfl ⟨rfl, rfl, rfl, rfl, rfl, rfl, rfl, trivial⟩) ?_
  intro ⟨i, m⟩ ⟨hi, hm⟩
  try dsimp only at hi hm ⊢
  (refine Qw (Qq fun K hK => ?_); refine Qk ilss rfl rfl rfl rfl ?_; refine Qj (hK _ _ (Qz (Qw ?_))); clear hK K)
  refine Q2 rfl (fun h => ?_) (fun h => ?_)
  · have e2 : (i : Int).toNat = i := Int.toNat_natCast i
    have hs1 := YQ (fun r => decide (w ∈ wy r) && (r.an == true)) (z := rs0) (i := i) (l := o) (by omega)
    have hs2 := YQ (fun r => decide (w ∈ wy r) && (r.an == false)) (z := rs0) (i := i) (l := o) (by omega)
    have hf1 := filter_len (fun r => decide (w ∈ wy r) && (r.an == true)) o i
    have hf2 := filter_len (fun r => decide (w ∈ wy r) && (r.an == false)) o i
    (refine Q1 (Qz (Qw (Q4 (Qw (Qq fun K hK => ?_))))); refine Ql rfl rfl rfl (by with_reducible exact sRes) (by omega) (Z9 (by omega) (by omega)) rfl ?_; refine XW (n := 17) rfl rfl rfl (by with_reducible exact lRes) rfl rfl ?_)
    rw [e2]
    generalize o.getD i rs0 = x at hs1 hs2
    generalize (o.take i).filter (fun r => decide (w ∈ wy r) && (r.an == true)) = s1 at hs1 hf1 ⊢
    generalize (o.take i).filter (fun r => decide (w ∈ wy r) && (r.an == false)) = s2 at hs2 hf2 ⊢
    refine Qg 6 rfl rfl (by with_reducible exact zvRes) rfl rfl rfl ?_
    refine Qc 17 rfl rfl rfl rfl rfl (by with_reducible exact szRes) rfl rfl ?_
    (refine Qj (hK _ _ (Qz (Qw (Qw ?_)))); clear hK K)
    refine St.drawQ (by with_reducible exact mixed) [2] (.f 0 (.f 1 (.a 2 (.f 3 (.m 4 (.p 5 .done) .non)) (.m 3 (.a 2 (.m 4 (.p 5 .done) .non) .non) .non)))) (by kernel_rfl) (fun K hK => ?_)
    refine Xr ?_
    refine Q7 (n := 2) rfl rfl rfl rfl rfl (by with_reducible exact Yq) rfl ?_
    refine Qj ?_
    refine Xr ?_
    refine Q7 (n := 17) rfl rfl rfl rfl rfl (by with_reducible exact lRes) rfl ?_
    refine Qj ?_
    refine XV ?_ ?_
    · refine Ops.call1 (As := [travC om v, rsC x]) 8 goway (hW v hv x m hm) rfl rfl rfl (fun _ h => h.elim) rfl (fun p hp => absurd hp (by simp)) (fun q j hq => by rcases hq with hq | ⟨_, hq⟩ <;> cases hq) (fun m' hm' => ?_)
      refine Qj ?_
      refine Xr ?_
      refine Q7 (n := 2) rfl rfl rfl rfl rfl (by with_reducible exact ZK) rfl ?_
      refine Qj ?_
      refine Xo ?_ Qr
      refine QW goContains_wr (Contains_wr (wy x) w (by have := hwl x; omega)) rfl rfl rfl rfl ?_
      refine Qj ?_
      refine YY ?_
      refine Qm rfl rfl rfl ?_
      refine Qj ?_
      refine XY (hK _ _ ?_)
      (refine Qz ?_)
      refine Xy rfl (fun h2 => ?_) (fun h2 => ?_)
      · rw [if_neg (by simp at h2; simp [h2])] at hs1 hs2
        (refine Qp (Qz (Qq fun K hK => ?_)); refine Qk (iadd (by omega) (by omega)) rfl rfl rfl rfl ?_; refine Qx rfl rfl rfl ?_; refine Qj (hK _ _ (Q3 ?_)); clear hK K)
        refine Qn 6 ?_
        refine Q9 (i + 1, m') (by dsimp only; omega) ⟨by dsimp only; omega, hm'⟩ (by dsimp only; rw [hs1, hs2]; exact QX rfl ⟨rfl, rfl, rfl, rfl, rfl, rfl, by simp only [Int.natCast_add]; rfl, trivial⟩)
      have h2 : decide (w ∈ wy x) = true := by simpa using h2
      (refine Q1 (Qz (Qw (Qq fun K hK => ?_))); refine QV rfl rfl rfl (by with_reducible first | exact fS0 | exact fS1 | exact fS2 | exact fS3 | exact fS4 | exact fS5 | exact fS6 | exact fS7 | exact fS8 | exact fS9 | exact fS10 | exact fS11 | exact fN0 | exact fN1 | exact fN2 | exact fN3 | exact fN4 | exact fN5) rfl ?_; refine QJ rfl rfl rfl rfl rfl (by with_reducible first | exact lInt | exact Qa | exact Q5 | exact lRess) rfl ?_; refine Qj (hK _ _ (Qz ?_)); clear hK K)
      refine Xy rfl (fun h3 => ?_) (fun h3 => ?_)
      · rw [if_pos (by simp [h2, h3])] at hs1
        rw [if_neg (by simp [h3])] at hs2
        (refine Qq (fun K hK => ?_); refine Qx rfl rfl rfl ?_; refine Q7 (n := 17) rfl rfl rfl rfl rfl (by with_reducible exact lRes) rfl ?_)
        refine QW Zg (YJ x) rfl rfl rfl rfl ?_
        refine X4 (n := 3) rfl rfl (by with_reducible exact sIks) rfl rfl (by decide) rfl ?_
        refine Qt (s1.map idOf).length (iks (s1.map idOf ++ [idOf x])) rfl rfl rfl rfl (by with_reducible exact sIks) (iks_len _) rfl (by rw [List.length_map]; omega) (by rw [List.length_map]; omega) (iks_snoc _ _) rfl ?_
        (refine Qv rfl rfl rfl ?_; refine Qj (hK _ _ (Qz ?_)); clear hK K; refine Qq (fun K hK => ?_); refine Qk (iadd (by omega) (by omega)) rfl rfl rfl rfl ?_; refine Qx rfl rfl rfl ?_; refine Qj (hK _ _ (Q3 ?_)); clear hK K)
        refine Qn 6 ?_
        refine Q9 (i + 1, m') (by dsimp only; omega) ⟨by dsimp only; omega, hm'⟩ (by dsimp only; rw [hs1, hs2, List.map_append]; exact QX rfl ⟨rfl, rfl, rfl, rfl, rfl, rfl, by simp only [Int.natCast_add]; rfl, trivial⟩)
      · rw [if_neg (by simp [h3])] at hs1
        rw [if_pos (by simp [h2, h3])] at hs2
        (refine Qq (fun K hK => ?_); refine Qx rfl rfl rfl ?_; refine Q7 (n := 17) rfl rfl rfl rfl rfl (by with_reducible exact lRes) rfl ?_)
        refine QW Zg (YJ x) rfl rfl rfl rfl ?_
        refine X4 (n := 3) rfl rfl (by with_reducible exact sIks) rfl rfl (by decide) rfl ?_
        refine Qt (s2.map idOf).length (iks (s2.map idOf ++ [idOf x])) rfl rfl rfl rfl (by with_reducible exact sIks) (iks_len _) rfl (by rw [List.length_map]; omega) (by rw [List.length_map]; omega) (iks_snoc _ _) rfl ?_
        (refine Qv rfl rfl rfl ?_; refine Qj (hK _ _ (Qz ?_)); clear hK K; refine Qq (fun K hK => ?_); refine Qk (iadd (by omega) (by omega)) rfl rfl rfl rfl ?_; refine Qx rfl rfl rfl ?_; refine Qj (hK _ _ (Q3 ?_)); clear hK K)
        refine Qn 6 ?_
        refine Q9 (i + 1, m') (by dsimp only; omega) ⟨by dsimp only; omega, hm'⟩ (by dsimp only; rw [hs1, hs2, List.map_append]; exact QX rfl ⟨rfl, rfl, rfl, rfl, rfl, rfl, by simp only [Int.natCast_add]; rfl, trivial⟩)
    refine Xo ?_ Qr
    refine Q7 (n := 2) rfl rfl rfl rfl rfl (by with_reducible exact ZK) rfl ?_
    refine Qj ?_
    refine XV ?_ Qr
    refine Ops.call1 (As := [travC om v, rsC x]) 8 goway (hW v hv x m hm) rfl rfl rfl (fun _ h => h.elim) rfl (fun p hp => absurd hp (by simp)) (fun q j hq => by rcases hq with hq | ⟨_, hq⟩ <;> cases hq) (fun m' hm' => ?_)
    refine Qj ?_
    refine Xo ?_ Qr
    refine QW goContains_wr (Contains_wr (wy x) w (by have := hwl x; omega)) rfl rfl rfl rfl ?_
    refine Qj ?_
    refine YY ?_
    refine Qm rfl rfl rfl ?_
    refine Qj ?_
    refine XY (hK _ _ ?_)
    (refine Qz ?_)
    refine Xy rfl (fun h2 => ?_) (fun h2 => ?_)
    · rw [if_neg (by simp at h2; simp [h2])] at hs1 hs2
      (refine Qp (Qz (Qq fun K hK => ?_)); refine Qk (iadd (by omega) (by omega)) rfl rfl rfl rfl ?_; refine Qx rfl rfl rfl ?_; refine Qj (hK _ _ (Q3 ?_)); clear hK K)
      refine Qn 6 ?_
      refine Q9 (i + 1, m') (by dsimp only; omega) ⟨by dsimp only; omega, hm'⟩ (by dsimp only; rw [hs1, hs2]; exact QX rfl ⟨rfl, rfl, rfl, rfl, rfl, rfl, by simp only [Int.natCast_add]; rfl, trivial⟩)
    have h2 : decide (w ∈ wy x) = true := by simpa using h2
    (refine Q1 (Qz (Qw (Qq fun K hK => ?_))); refine QV rfl rfl rfl (by with_reducible first | exact fS0 | exact fS1 | exact fS2 | exact fS3 | exact fS4 | exact fS5 | exact fS6 | exact fS7 | exact fS8 | exact fS9 | exact fS10 | exact fS11 | exact fN0 | exact fN1 | exact fN2 | exact fN3 | exact fN4 | exact fN5) rfl ?_; refine QJ rfl rfl rfl rfl rfl (by with_reducible first | exact lInt | exact Qa | exact Q5 | exact lRess) rfl ?_; refine Qj (hK _ _ (Qz ?_)); clear hK K)
    refine Xy rfl (fun h3 => ?_) (fun h3 => ?_)
    · rw [if_pos (by simp [h2, h3])] at hs1
      rw [if_neg (by simp [h3])] at hs2
      (refine Qq (fun K hK => ?_); refine Qx rfl rfl rfl ?_; refine Q7 (n := 17) rfl rfl rfl rfl rfl (by with_reducible exact lRes) rfl ?_)
      refine QW Zg (YJ x) rfl rfl rfl rfl ?_
      refine X4 (n := 3) rfl rfl (by with_reducible exact sIks) rfl rfl (by decide) rfl ?_
      refine Qt (s1.map idOf).length (iks (s1.map idOf ++ [idOf x])) rfl rfl rfl rfl (by with_reducible exact sIks) (iks_len _) rfl (by rw [List.length_map]; omega) (by rw [List.length_map]; omega) (iks_snoc _ _) rfl ?_
      (refine Qv rfl rfl rfl ?_; refine Qj (hK _ _ (Qz ?_)); clear hK K; refine Qq (fun K hK => ?_); refine Qk (iadd (by omega) (by omega)) rfl rfl rfl rfl ?_; refine Qx rfl rfl rfl ?_; refine Qj (hK _ _ (Q3 ?_)); clear hK K)
      refine Qn 6 ?_
      refine Q9 (i + 1, m') (by dsimp only; omega) ⟨by dsimp only; omega, hm'⟩ (by dsimp only; rw [hs1, hs2, List.map_append]; exact QX rfl ⟨rfl, rfl, rfl, rfl, rfl, rfl, by simp only [Int.natCast_add]; rfl, trivial⟩)
    · rw [if_neg (by simp [h3])] at hs1
      rw [if_pos (by simp [h2, h3])] at hs2
      (refine Qq (fun K hK => ?_); refine Qx rfl rfl rfl ?_; refine Q7 (n := 17) rfl rfl rfl rfl rfl (by with_reducible exact lRes) rfl ?_)
      refine QW Zg (YJ x) rfl rfl rfl rfl ?_
      refine X4 (n := 3) rfl rfl (by with_reducible exact sIks) rfl rfl (by decide) rfl ?_
      refine Qt (s2.map idOf).length (iks (s2.map idOf ++ [idOf x])) rfl rfl rfl rfl (by with_reducible exact sIks) (iks_len _) rfl (by rw [List.length_map]; omega) (by rw [List.length_map]; omega) (iks_snoc _ _) rfl ?_
      (refine Qv rfl rfl rfl ?_; refine Qj (hK _ _ (Qz ?_)); clear hK K; refine Qq (fun K hK => ?_); refine Qk (iadd (by omega) (by omega)) rfl rfl rfl rfl ?_; refine Qx rfl rfl rfl ?_; refine Qj (hK _ _ (Q3 ?_)); clear hK K)
      refine Qn 6 ?_
      refine Q9 (i + 1, m') (by dsimp only; omega) ⟨by dsimp only; omega, hm'⟩ (by dsimp only; rw [hs1, hs2, List.map_append]; exact QX rfl ⟨rfl, rfl, rfl, rfl, rfl, rfl, by simp only [Int.natCast_add]; rfl, trivial⟩)
  · have hi' : i = o.length := by omega
    rw [hi', List.take_length]
    have hf1 := List.length_filter_le (fun r => decide (w ∈ wy r) && (r.an == true)) o
    have hf2 := List.length_filter_le (fun r => decide (w ∈ wy r) && (r.an == false)) o
    generalize o.filter (fun r => decide (w ∈ wy r) && (r.an == true)) = s1 at e hf1 ⊢
    generalize o.filter (fun r => decide (w ∈ wy r) && (r.an == false)) = s2 at e hf2 ⊢
    (refine Qp (Qz (Qw (Qw (Qq fun K hK => ?_)))); refine Qx rfl rfl rfl ?_)
    refine Yj _ rfl rfl rfl (by decide) (iks_len _) (by with_reducible exact sIks.und) rfl ?_
    (refine Qx rfl rfl rfl ?_)
    refine Yj _ rfl rfl rfl (by decide) (iks_len _) (by with_reducible exact sIks.und) rfl ?_
    rw [List.length_map, List.length_map]
    (refine Qk (iadd (by omega) (by omega)) rfl rfl rfl rfl ?_; refine Qk ieql rfl rfl rfl rfl ?_; refine Qj (hK _ _ (Qz ?_)); clear hK K)
    refine Q2 rfl (fun h2 => ?_) (fun h2 => ?_)
    · rw [if_pos (by omega)] at e
      (refine Qw (Qq fun K hK => ?_); refine Qv rfl rfl rfl ?_; refine Qv rfl rfl rfl ?_; refine Qv rfl rfl rfl ?_; refine Qj (hK _ _ (Qz (Q0 (QY ?_)))); clear hK K)
      refine QK [_, _, _] rfl (XX Zx (Qu rfl (XX Zx (Qu rfl (Qu rfl QQ))))) (by rw [e]; rfl) rfl
    · rw [if_neg (by omega)] at e
      (refine Q1 (Qz (Qw (Qq fun K hK => ?_))); refine Qx rfl rfl rfl ?_; refine Qx rfl rfl rfl ?_; refine Qv rfl rfl rfl ?_; refine Qv rfl rfl rfl ?_; refine Qv rfl rfl rfl ?_; refine Qj (hK _ _ (Qz (Q0 ?_))); clear hK K)
      refine Z6 2 _ rfl (iks_frozen _ _) XZ ?_
      refine Z6 4 _ rfl (iks_frozen _ _) XZ ?_
      refine QK [_, _, _] rfl (Qu rfl (Qu rfl (Qu rfl QQ))) (by rw [e]; rfl) rfl
end Go.Proofs.YtlkdkbdgnjcopaaGreat
namespace Go.Proofs.YtlkdkbdgnjcopaaGreat
open Go.Own
theorem sNat : SlcT Tryz.prog 51 3 1 8 (.int .i64 0) := SlcT.of Tryz.underlying51 (by kernel_rfl) rfl (by decide)
theorem lNat : Ld1 Tryz.prog 51 := Ld1.of _ Tryz.underlying51 rfl
attribute [local irreducible] Go.Own.Fin Ok Ops St
theorem at_ok (xs : List Int) (i : Int) (hi : 0 ≤ i) : Ok Tryz.prog 178 [intsC xs, intC i] (intC (xs.getD i.toNat 0)) := by
  refine Ok.enter Tryz.func178 J _ Tryz.ntmps178 J ?_
  intro S w; refine Qw (Qq fun K hK => ?_); refine Qv J J J (Qj (hK _ _ ?_)); refine Qz (Qw (Qw (Qq fun K hK => ?_))); refine Qx J J J (Qx J J J (Qd J J sNat.und (List.length_map ..) J (Qk ilss J J J J (Qj (hK _ _ ?_))))); refine Qz (Q2 J (fun h => ?_) (fun h => ?_))
  · refine Qw (Qq fun K hK => ?_); refine Qx J J J (Qx J J J (Ql J J J sNat (by omega) (X3 (by omega) (by omega)) J ?_)); refine XQ J J J lInt J (Qv J J J (Qj (hK _ _ ?_))); refine Qz (Q0 (QY ?_)); refine QK [_] rfl (Qu J QQ) J J
  · refine Q1 (Qz (Qw (Qq fun K hK => ?_))); refine Qv J J J (Qj (hK _ _ ?_)); refine Qz (Q0 ?_)
    have hx : xs.getD i.toNat 0 = 0 := by
      rw [List.getD_eq_getElem?_getD, List.getElem?_eq_none (by omega)]; rfl
    rw [hx]; refine QK [_] rfl (Qu J QQ) J J
end Go.Proofs.YtlkdkbdgnjcopaaGreat
namespace Go.Proofs.YtlkdkbdgnjcopaaGreat
open Go.Own Go.Limbs
attribute [local irreducible] St Ops Go.Own.Fin Ok
theorem trim_ok (xs : List Int) (hl : xs.length < 4611686018427387904) : Ok Tryz.prog 173 [intsC xs] (intsC (trimL xs)) := by
  refine Ok.enter Tryz.func173 J _ Tryz.ntmps173 J ?_
  intro S w; refine Qw (Qq fun K hK => ?_); refine Qv J J J (Qj (hK _ _ ?_)); refine Qz (Qw (Q4 ?_))
  refine Xj (α := List Int) (fun ys => trimL ys = trimL xs ∧ ys.length ≤ xs.length) (fun ys => [(0, .ct (intsC ys))]) (fun _ => []) (fun ys => ys.length) xs ⟨rfl, Nat.le_refl _⟩ (Entails.sub ⟨rfl, trivial⟩) ?_
  intro ys ⟨hy, hle⟩; refine Qw (Qw (Qq fun K hK => ?_)); refine Qx J J J (Qd J J sNat.und (List.length_map ..) J (Qk igtr J J J J (Qx J J J (Q6 6 J (fun h => ?_) (fun h => ?_)))))
  · refine Qx J J J (Qx J J J (Qd J J sNat.und (List.length_map ..) J (Qk (isub (by omega) (by omega)) J J J J ?_)))
    refine Ql J J J sNat (by omega) (X3 (by omega) (by omega)) J ?_
    refine XQ J J J lInt J (Qk ieql J J J J (QZ J J J J (Qj (hK _ _ ?_))))
    refine Qz ?_
    have e1 : ((ys.length : Int) - 1).toNat = ys.length - 1 := by omega
    refine Q2 J (fun h2 => ?_) (fun h2 => ?_)
    · rw [e1] at h2; refine Q1 (Qz (Q4 (Qq fun K hK => ?_))); refine Qx J J J (Qx J J J (Qd J J sNat.und (List.length_map ..) J (Qk (isub (by omega) (by omega)) J J J J ?_)))
      refine Ops.cutHi J J J sNat (by omega) (by simp) J ?_
      rw [← List.map_take]; refine Qv J J J (Qj (hK _ _ ?_)); refine Qb (Q3 ?_); refine Q9 (ys.take ((ys.length : Int) - 1).toNat) (by simp; omega) ⟨?_, by simp; omega⟩ (Entails.sub ⟨rfl, trivial⟩); rw [e1, ← hy]; exact trim_last (by omega) h2
    · rw [e1] at h2; refine Qp (Qz (Qw (Qq fun K hK => ?_))); refine Qx J J J (Qv J J J (Qj (hK _ _ ?_))); refine Qz (Q0 ?_); rw [← hy, trim_done (fun _ => h2)]; refine QK [_] rfl (Qu J QQ) J J
  · refine Qy J J J (Qy J J J (Qy J J J (Qy J J J (Qy J J J (Qy J J J (Qy J J J (QU J J J J (Qj (hK _ _ ?_))))))))); refine Qz (Xv J (Qp (Qz (Qw (Qq fun K hK => ?_))))); refine Qx J J J (Qv J J J (Qj (hK _ _ ?_))); refine Qz (Q0 ?_); rw [← hy, trim_done (fun h3 => absurd h3 (by omega))]; refine QK [_] rfl (Qu J QQ) J J
theorem gotrim : InGo Tryz.prog 173 := InGo.of Tryz.func173 (by kernel_rfl) (by kernel_rfl)
def resultC (xs : List Int) : CT := if (trimL xs).length > 256 then .fr (tupT [intsC [], intC 3]) else .fr (tupT [intsC (trimL xs), intC 0])
theorem result_ok (xs : List Int) (hl : xs.length ≤ 256) : Ok Tryz.prog 179 [intsC xs] (.fr (tupT [intsC (trimL xs), intC 0])) := by
  refine Ok.enter Tryz.func179 J _ Tryz.ntmps179 J ?_
  intro S w; refine Qw (Qq fun K hK => ?_); refine Qv J J J (Qv J J J (Qj (hK _ _ ?_))); refine Qz (Qw (Qw (Qq fun K hK => ?_))); refine Qx J J J (QW gotrim (trim_ok xs (by omega)) J J J J ?_); refine Qv J J J (Qj (hK _ _ ?_)); refine Qz (Qw (Qq fun K hK => ?_)); refine Qx J J J (Qd J J sNat.und (List.length_map ..) J (Qk igtr J J J J (Qj (hK _ _ ?_))))
  refine Qz ?_
  have := trim_len xs; refine Q2 J (fun h2 => ?_) (fun h2 => ?_)
  · omega
  · refine Q1 (Qz (Qw (Qq fun K hK => ?_))); refine Qx J J J (Qv J J J (Qv J J J (Qj (hK _ _ ?_)))); refine Qz (Q0 ?_); refine QK [_, _] rfl (Qu J (Qu J QQ)) J J
end Go.Proofs.YtlkdkbdgnjcopaaGreat
namespace Go.Limbs
abbrev BB : Int := 1073741824
def val : List Int → Int
  | [] => 0
  | x :: xs => x + BB * val xs
def OKL (xs : List Int) : Prop := ∀ x ∈ xs, 0 ≤ x ∧ x < BB
theorem OKL.nil : OKL [] := fun _ h => by cases h
theorem OKL.cons {x : Int} {xs : List Int} (h : 0 ≤ x ∧ x < BB) (hs : OKL xs) : OKL (x :: xs) := fun y hy => by
  rcases List.mem_cons.1 hy with rfl | hy
  · exact h
  · exact hs y hy
theorem OKL.tail {x : Int} {xs : List Int} (h : OKL (x :: xs)) : OKL xs := fun y hy => h y (List.mem_cons_of_mem _ hy)
theorem OKL.head {x : Int} {xs : List Int} (h : OKL (x :: xs)) : 0 ≤ x ∧ x < BB := h x (List.mem_cons_self ..)
theorem OKL.append {xs ys : List Int} (h : OKL xs) (h' : OKL ys) : OKL (xs ++ ys) := fun y hy => by
  rcases List.mem_append.1 hy with hy | hy
  · exact h y hy
  · exact h' y hy
theorem OKL.zeros (n : Nat) : OKL (List.replicate n 0) := fun y hy => by rw [List.eq_of_mem_replicate hy]; decide
theorem OKL.set {xs : List Int} (h : OKL xs) (i : Nat) {x : Int} (hx : 0 ≤ x ∧ x < BB) : OKL (xs.set i x) := fun y hy => by
  rcases List.mem_or_eq_of_mem_set hy with hy | rfl
  · exact h y hy
  · exact hx
theorem OKL.get {xs : List Int} (h : OKL xs) (i : Nat) : 0 ≤ xs.getD i 0 ∧ xs.getD i 0 < BB := by
  rw [List.getD_eq_getElem?_getD]
  cases e : xs[i]? with
  | none => decide
  | some x => exact h x (List.mem_of_getElem? e)
theorem val_nonneg {xs : List Int} (h : OKL xs) : 0 ≤ val xs := by
  induction xs with
  | nil => decide
  | cons x xs ih => have := ih h.tail; have := h.head; simp only [val, BB] at *; omega
theorem val_append (xs ys : List Int) : val (xs ++ ys) = val xs + BB ^ xs.length * val ys := by
  induction xs with
  | nil => simp [val]
  | cons x xs ih => simp only [List.cons_append, val, ih, List.length_cons]; grind
theorem val_zeros (n : Nat) : val (List.replicate n 0) = 0 := by
  induction n with
  | zero => rfl
  | succ n ih => simp [List.replicate_succ, val, ih]
theorem val_trim (xs : List Int) : val (trimL xs) = val xs := by
  induction xs with
  | nil => rfl
  | cons x xs ih =>
    simp only [trimL]; split
    · rename_i e
      rw [e] at ih; simp only [val] at ih ⊢; split
      · rename_i e0; subst e0; simp [val, ← ih]
      · simp [val, ← ih]
    · rename_i y ys e; rw [e] at ih; simp only [val] at ih ⊢; rw [ih]
theorem OKL.trim {xs : List Int} (h : OKL xs) : OKL (trimL xs) := by
  induction xs with
  | nil => exact h
  | cons x xs ih =>
    simp only [trimL]; split
    · split
      · exact OKL.nil
      · exact OKL.cons h.head OKL.nil
    · rename_i y ys e
      have := ih h.tail; rw [e] at this; exact OKL.cons h.head this
def limbs (n : Nat) : List Int := if h : n = 0 then [] else ((n % 1073741824 : Nat) : Int) :: limbs (n / 1073741824)
termination_by n
decreasing_by exact Nat.div_lt_self (by omega) (by decide)
theorem limbs_zero : limbs 0 = [] := by unfold limbs; rfl
theorem limbs_pos {n : Nat} (h : n ≠ 0) : limbs n = ((n % 1073741824 : Nat) : Int) :: limbs (n / 1073741824) := by rw [limbs]; simp [h]
theorem Xh (n : Nat) : OKL (limbs n) := by
  induction n using Nat.strongRecOn with
  | ind n ih =>
    by_cases h : n = 0
    · subst h; rw [limbs_zero]; exact OKL.nil
    · rw [limbs_pos h]; refine OKL.cons (by simp only [BB]; omega) (ih _ (Nat.div_lt_self (by omega) (by decide)))
theorem ZW (n : Nat) : val (limbs n) = n := by
  induction n using Nat.strongRecOn with
  | ind n ih =>
    by_cases h : n = 0
    · subst h; rw [limbs_zero]; rfl
    · rw [limbs_pos h, val, ih _ (Nat.div_lt_self (by omega) (by decide))]; simp only [BB]; omega
theorem Zs {n : Nat} (h : limbs n = []) : n = 0 := by
  by_cases h0 : n = 0
  · exact h0
  · rw [limbs_pos h0] at h; cases h
theorem limbs_val {xs : List Int} (h : OKL xs) (ht : trimL xs = xs) : xs = limbs (val xs).toNat := by
  induction xs with
  | nil => simp [val, limbs_zero]
  | cons x xs ih =>
    have hx := h.head; have hv := val_nonneg h.tail
    have ht2 : trimL xs = xs ∧ ¬ (xs = [] ∧ x = 0) := by
      simp only [trimL] at ht; split at ht
      · rename_i e
        split at ht
        · cases ht
        · rename_i hne; injection ht with _ h2; subst h2; exact ⟨e, fun h => hne h.2⟩
      · rename_i y ys e; injection ht with _ h2; rw [e, h2]; exact ⟨rfl, fun h => by rw [h.1] at h2; cases h2⟩
    have ih2 := ih h.tail ht2.1
    have hne : (val (x :: xs)).toNat ≠ 0 := by
      intro h0; simp only [val, BB] at h0
      have hx0 : x = 0 := by simp only [BB] at hx; omega
      have hv0 : val xs = 0 := by omega
      rw [hv0] at ih2; exact ht2.2 ⟨by rw [ih2]; exact limbs_zero, hx0⟩
    rw [limbs_pos hne]; simp only [val, BB] at *
    congr 1
    · omega
    · rw [ih2]; congr 1; rw [← ih2]; omega
theorem trim_trim (xs : List Int) : trimL (trimL xs) = trimL xs := by
  induction xs with
  | nil => rfl
  | cons x xs ih =>
    simp only [trimL]; split
    · split
      · rfl
      · rename_i h; simp [trimL, h]
    · rename_i y ys e; rw [e] at ih; rw [trimL, ih]
theorem Z7 {xs : List Int} (h : OKL xs) : trimL xs = limbs (val xs).toNat := by
  have := limbs_val h.trim (trim_trim xs)
  rwa [val_trim] at this
theorem trim_of_limbs (n : Nat) : trimL (limbs n) = limbs n := by rw [Z7 (Xh n), ZW]; simp
def pre (xs : List Int) (i : Nat) : Int := val (xs.take i)
theorem Z8 (xs : List Int) : pre xs 0 = 0 := by simp [pre, val]
theorem Xs (xs : List Int) (i : Nat) : pre xs (i + 1) = pre xs i + xs.getD i 0 * BB ^ i := by
  unfold pre; by_cases h : i < xs.length
  · rw [List.take_succ_eq_append_getElem h, val_append]
    have hl : (xs.take i).length = i := by simp; omega
    rw [hl]; simp [val, List.getD_eq_getElem?_getD, List.getElem?_eq_getElem h]; grind
  · rw [List.take_of_length_le (by omega), List.take_of_length_le (by omega), List.getD_eq_getElem?_getD, List.getElem?_eq_none (by omega)]; simp
theorem Zr {xs : List Int} {i : Nat} (h : xs.length ≤ i) : pre xs i = val xs := by unfold pre; rw [List.take_of_length_le h]
theorem set_snoc {zs : List Int} {n : Nat} (x : Int) : (zs ++ List.replicate (n + 1) 0).set zs.length x = (zs ++ [x]) ++ List.replicate n 0 := by
  rw [List.set_append_right _ _ (Nat.le_refl _)]; simp [List.replicate_succ]
theorem XJ {n k : Nat} (h : n < 1073741824 ^ k) : (limbs n).length ≤ k := by
  induction k generalizing n with
  | zero => have : n = 0 := by omega
            subst this; simp [limbs_zero]
  | succ k ih =>
    by_cases h0 : n = 0
    · subst h0; simp [limbs_zero]
    · rw [limbs_pos h0]
      have : n / 1073741824 < 1073741824 ^ k := by rw [Nat.div_lt_iff_lt_mul (by decide)]; rw [Nat.pow_succ] at h; exact h
      have := ih this; simp; omega
theorem X9 {n k : Nat} (h : (limbs n).length ≤ k) : n < 1073741824 ^ k := by
  induction k generalizing n with
  | zero =>
    have : limbs n = [] := List.eq_nil_of_length_eq_zero (by omega); have := Zs this; subst this; decide
  | succ k ih =>
    by_cases h0 : n = 0
    · subst h0; exact Nat.pow_pos (by decide)
    · rw [limbs_pos h0] at h; have := ih (n := n / 1073741824) (by simpa using h); rw [Nat.div_lt_iff_lt_mul (by decide)] at this; rw [Nat.pow_succ]; exact this
end Go.Limbs
namespace Go.Proofs.YtlkdkbdgnjcopaaGreat
open Go.Own Go.Limbs
attribute [local irreducible] St Ops Go.Own.Fin Ok
theorem goat : InGo Tryz.prog 178 := InGo.of Tryz.func178 (by kernel_rfl) (by kernel_rfl)
theorem goresult : InGo Tryz.prog 179 := InGo.of Tryz.func179 (by kernel_rfl) (by kernel_rfl)
abbrev natC (n : Nat) : CT := intsC (limbs n)
theorem Add_list (xs ys : List Int) (hx : xs.length ≤ 200) (hy : ys.length ≤ 200) (bx : OKL xs) (by' : OKL ys) :
    Ok Tryz.prog 140 [intsC xs, intsC ys] (.fr (tupT [natC (val xs + val ys).toNat, intC 0])) := by
  refine Ok.enter Tryz.func140 J _ Tryz.ntmps140 J ?_
  intro S w; refine Qw (Qq fun K hK => ?_); refine Qv J J J (Qv J J J (Qj (hK _ _ ?_))); refine Qz (Qw (Qq fun K hK => ?_)); refine Qx J J J (Qd J J sNat.und (List.length_map ..) J (Qx J J J (Qd J J sNat.und (List.length_map ..) J (Ops.max2 J J J J (Qv J J J (Qj (hK _ _ ?_))))))); refine Qz (Qw (Qq fun K hK => ?_)); refine Qx J J J (Qk (iadd (by omega) (by omega)) J J J J ?_)
  refine Ops.make 0 (max xs.length ys.length + 1) J J J (by omega) sNat (by omega) (by omega) J J J ?_
  rw [ints_made]; refine Qv J J J (Qj (hK _ _ ?_)); refine Qz (Qw (Qq fun K hK => ?_)); refine Qv J J J (Qj (hK _ _ ?_)); refine Qz (Qw (Qw (Qq fun K hK => ?_))); refine Qx J J J (Qx J J J (Qj (hK _ _ ?_))); refine Qz (Q4 ?_)
  refine Xj (α := Nat × List Int × Int) (fun s => s.1 ≤ max xs.length ys.length ∧ s.2.1.length = s.1 ∧ OKL s.2.1 ∧ 0 ≤ s.2.2 ∧ s.2.2 ≤ 1 ∧ val s.2.1 + s.2.2 * BB ^ s.1 = pre xs s.1 + pre ys s.1)
    (fun s => [(0, .ct (intsC xs)), (1, .ct (intsC ys)), (6, .ct (intC (max ↑xs.length ↑ys.length))), (7, .own 0), (8, .ct (intC s.2.2)), (19, .ct (intC (max ↑xs.length ↑ys.length))), (20, .ct (intC s.1))])
    (fun s => [(0, .row 3 1 (ints (s.2.1 ++ List.replicate (max xs.length ys.length + 1 - s.1) 0)))])
    (fun s => max xs.length ys.length - s.1) (0, [], 0) ⟨Nat.zero_le _, rfl, OKL.nil, by decide, by decide, by simp [val, Z8]⟩ (by exact QX J ⟨rfl, rfl, rfl, rfl, rfl, rfl, rfl, trivial⟩) ?_
  rintro ⟨i, zs, c⟩ ⟨hi, hz, hok, hc0, hc1, hv⟩
  dsimp only at hi hz hok hc0 hc1 hv ⊢; refine Qw (Qq fun K hK => ?_); refine Qk ilss J J J J (Qj (hK _ _ ?_)); refine Qz (Qw ?_); refine Q2 J (fun h => ?_) (fun h => ?_)
  · have b1 := bx.get i
    have b2 := by'.get i
    simp only [BB] at b1 b2; refine Q1 (Qz (Qw (Q4 (Qw (Qq fun K hK => ?_))))); refine Qx J J J (Qv J J J (Qj (hK _ _ ?_))); refine Qz (Qw (Qq fun K hK => ?_)); refine Qx J J J (Qx J J J (QW goat (at_ok xs i (by omega)) J J J J ?_)); refine Qx J J J (Qx J J J (QW goat (at_ok ys i (by omega)) J J J J ?_)); rw [Int.toNat_natCast]
    refine Qk (iadd (by omega) (by omega)) J J J J ?_
    refine Qx J J J (Qk (iadd (by omega) (by omega)) J J J J ?_); refine Qv J J J (Qj (hK _ _ ?_)); refine Qz (Qq fun K hK => ?_); refine Qx J J J (Qx J J J (Qx J J J (Qk iand30 J J J J (Qx J J J (Qk ishr30 J J J J (Zv (max xs.length ys.length + 1) J J J (by simp; omega) J sNat (by omega) (by omega) J ?_))))))
    refine X6 J J J J J zInt (by simp [Ent.cs]; omega) ?_
    simp only [Ent.setc, ints_set]; refine Qv J J J (Qj (hK _ _ ?_)); refine Qz (Qq fun K hK => ?_)
    refine Qk (iadd (by omega) (by omega)) J J J J ?_
    refine Qx J J J (Qj (hK _ _ ?_)); refine Q3 (Q9 (i + 1, zs ++ [(xs.getD i 0 + ys.getD i 0 + c) % 1073741824], (xs.getD i 0 + ys.getD i 0 + c) / 1073741824) (by dsimp only; omega) ⟨by dsimp only; omega, by simp [hz], ?_, ?_, ?_, ?_⟩ ?_)
    all_goals dsimp only
    · exact hok.append (OKL.cons (by simp only [BB]; omega) OKL.nil)
    · omega
    · omega
    · rw [val_append, hz, Xs, Xs]; have e := Int.mul_ediv_add_emod (xs.getD i 0 + ys.getD i 0 + c) 1073741824; simp only [val, BB] at *; generalize (xs.getD i 0 + ys.getD i 0 + c) / 1073741824 = q at *; generalize (xs.getD i 0 + ys.getD i 0 + c) % 1073741824 = m at *
      grind
    · refine QX ?_ ⟨rfl, rfl, rfl, rfl, rfl, rfl, by simp only [Int.natCast_add]; rfl, trivial⟩
      have e1 : max xs.length ys.length + 1 - i = (max xs.length ys.length - i) + 1 := by omega
      have e2 : max xs.length ys.length + 1 - (i + 1) = max xs.length ys.length - i := by omega
      have e3 : (i : Int).toNat * 1 = zs.length := by omega
      rw [e1, e2, e3, set_snoc]; rfl
  · refine Qp (Qz (Qw (Qq fun K hK => ?_))); refine Qx J J J (Qx J J J (Qx J J J ?_))
    have hi' : i = max xs.length ys.length := by omega
    have e1 : max xs.length ys.length + 1 - i = 0 + 1 := by omega
    refine Zv (max xs.length ys.length + 1) J J J (by simp; omega) J sNat (by omega) (by omega) J ?_
    refine X6 J J J J J zInt (by simp [Ent.cs]; omega) ?_
    simp only [Ent.setc, ints_set]
    have e3 : (max (xs.length : Int) ys.length).toNat * 1 = zs.length := by omega
    rw [e3, e1, set_snoc]; refine Qj (hK _ _ ?_); refine Qz (Qw (Qq fun K hK => ?_)); refine Qx J J J (X2 0 _ J (Zw _ _) XZ (QW goresult (result_ok _ (by simp; omega)) J J J J ?_))
    have e4 : trimL (zs ++ [c] ++ List.replicate 0 0) = limbs (val xs + val ys).toNat := by
      have h1 : OKL (zs ++ [c]) := hok.append (OKL.cons (by simp only [BB]; omega) OKL.nil); simp only [List.replicate_zero, List.append_nil]; rw [Z7 h1, val_append, hz]; rw [Zr (by omega), Zr (by omega)] at hv
      congr 2
      simp only [val]; grind
    rw [e4]; refine Qf J J J J (Qf J J J J (Qv J J J (Qv J J J (Qj (hK _ _ ?_))))); refine Qz (Q0 ?_); refine QK [_, _] rfl (Qu J (Qu J QQ)) J J
end Go.Proofs.YtlkdkbdgnjcopaaGreat
namespace Go.Limbs
def cmpI (a b : Int) : Int := if a < b then -1 else if b < a then 1 else 0
theorem cmpI_neg {a b : Int} : cmpI a b < 0 ↔ a < b := by unfold cmpI; split <;> (try split) <;> omega
theorem Xi (a b : Int) : cmpI a b = if a < b then -1 else if b < a then 1 else 0 := rfl
theorem pre_bd {xs : List Int} (h : OKL xs) (i : Nat) : 0 ≤ pre xs i ∧ pre xs i < BB ^ i := by
  induction i with
  | zero => rw [Z8]; simp
  | succ i ih =>
    rw [Xs]; have := h.get i; have hp : 0 < BB ^ i := Int.pow_pos (by decide); obtain ⟨h1, h2⟩ := this; refine ⟨?_, ?_⟩
    · have := Int.mul_nonneg h1 (Int.le_of_lt hp); omega
    · have h3 : xs.getD i 0 * BB ^ i ≤ (BB - 1) * BB ^ i := Int.mul_le_mul_of_nonneg_right (by omega) (Int.le_of_lt hp)
      have h4 : BB ^ (i + 1) = BB * BB ^ i := by rw [Int.pow_succ, Int.mul_comm]
      rw [h4]
      have h5 : (BB - 1) * BB ^ i = BB * BB ^ i - BB ^ i := by rw [Int.sub_mul, Int.one_mul]
      omega
theorem pre_decides {xs ys : List Int} (hx : OKL xs) (hy : OKL ys) {k : Nat} (h : xs.getD k 0 < ys.getD k 0) : pre xs (k + 1) < pre ys (k + 1) := by
  rw [Xs, Xs]; have h1 := pre_bd hx k; have h2 := pre_bd hy k; have hp : 0 < BB ^ k := Int.pow_pos (by decide); have h3 : (xs.getD k 0 + 1) * BB ^ k ≤ ys.getD k 0 * BB ^ k := Int.mul_le_mul_of_nonneg_right (by omega) (Int.le_of_lt hp); rw [Int.add_mul, Int.one_mul] at h3; omega
theorem Xa {a b : Nat} (h : a ≤ b) : (limbs a).length ≤ (limbs b).length := XJ (Nat.lt_of_le_of_lt h (X9 (Nat.le_refl _)))
theorem lt_of_len {a b : Nat} (h : (limbs a).length < (limbs b).length) : a < b := by
  rcases Nat.lt_or_ge a b with h1 | h1
  · exact h1
  · have := Xa h1; omega
theorem val_eq_pre (n : Nat) : pre (limbs n) (limbs n).length = n := by rw [Zr (Nat.le_refl _), ZW]
def validL (xs : List Int) : Bool := xs.all (fun x => decide (0 ≤ x) && decide (x < BB)) && decide (xs.length ≤ 256) && (decide (xs.length = 0) || decide (xs.getD (xs.length - 1) 0 ≠ 0))
end Go.Limbs
namespace Go.Proofs.YtlkdkbdgnjcopaaGreat
open Go.Own Go.Limbs
attribute [local irreducible] St Ops Go.Own.Fin Ok
theorem isNaN_ok (x : Int) : Ok Tryz.prog 160 [intC x] (boolC false) := by
  refine Ok.enter Tryz.func160 J _ Tryz.ntmps160 J ?_
  intro S w; refine Qw (Qq fun K hK => ?_); refine Qv J J J (Qj (hK _ _ ?_)); refine Qz (Qw (Qq fun K hK => ?_)); refine Qx J J J (Qx J J J (Qk ineq J J J J (Qv J J J (Qj (hK _ _ ?_))))); refine Qz (Q0 ?_)
  have : decide (x ≠ x) = false := by simp
  rw [this]; refine QK [_] rfl (Qu J QQ) J J
theorem goisNaN : InGo Tryz.prog 160 := InGo.of Tryz.func160 (by kernel_rfl) (by kernel_rfl)
theorem cmp_ok (x y : Int) : Ok Tryz.prog 124 [intC x, intC y] (intC (cmpI x y)) := by
  refine Ok.enter Tryz.func124 J _ Tryz.ntmps124 J ?_
  intro S w; refine Qw (Qq fun K hK => ?_); refine Qv J J J (Qj (hK _ _ ?_)); refine Qz (Qw (Qq fun K hK => ?_)); refine Qx J J J (QW goisNaN (isNaN_ok x) J J J J (Qv J J J (Qj (hK _ _ ?_)))); refine Qz (Qw (Qq fun K hK => ?_)); refine Qx J J J (QW goisNaN (isNaN_ok y) J J J J (Qv J J J (Qj (hK _ _ ?_)))); refine Qz (Qw (Qw (Qq fun K hK => ?_))); refine Qx J J J (Qj (hK _ _ ?_)); refine Qz (Xv J (Q1 (Qz (Qw (Qw (Qq fun K hK => ?_)))))); refine Qx J J J (Qj (hK _ _ ?_)); refine Qz (Xv J (Q1 (Qz (Qw (Qw (Qq fun K hK => ?_)))))); refine Qx J J J (Qx J J J (Qk ilss J J J J (Qj (hK _ _ ?_)))); refine Qz (Q2 J (fun h => ?_) (fun h => ?_))
  · refine Qw (Qq fun K hK => ?_); refine Qv J J J (Qj (hK _ _ ?_)); refine Qz (Q0 (QY ?_)); rw [Xi, if_pos h]; refine QK [_] rfl (Qu J QQ) J J
  · refine Q1 (Qz (Qw (Qw (Qq fun K hK => ?_)))); refine Qx J J J (Qx J J J (Qk igtr J J J J (Qj (hK _ _ ?_)))); refine Qz (Q2 J (fun h2 => ?_) (fun h2 => ?_))
    · refine Qw (Qq fun K hK => ?_); refine Qv J J J (Qj (hK _ _ ?_)); refine Qz (Q0 (QY ?_)); rw [Xi, if_neg h, if_pos h2]; refine QK [_] rfl (Qu J QQ) J J
    · refine Q1 (Qz (Qw (Qq fun K hK => ?_))); refine Qv J J J (Qj (hK _ _ ?_)); refine Qz (Q0 ?_); rw [Xi, if_neg h, if_neg h2]; refine QK [_] rfl (Qu J QQ) J J
theorem gocmp : InGo Tryz.prog 124 := InGo.of Tryz.func124 (by kernel_rfl) (by kernel_rfl)
set_option maxHeartbeats 2000000 in
theorem Compare_ok (a b : Nat) (ha : (limbs a).length < 4611686018427387904) (hb : (limbs b).length < 4611686018427387904) : Ok Tryz.prog 174 [natC a, natC b] (intC (cmpI a b)) := by
  refine Ok.enter Tryz.func174 J _ Tryz.ntmps174 J ?_
  intro S w; refine Qw (Qq fun K hK => ?_); refine Qv J J J (Qj (hK _ _ ?_)); refine Qz (Qw (Qw (Qq fun K hK => ?_))); refine Qx J J J (Qd J J sNat.und (List.length_map ..) J (Qx J J J (Qd J J sNat.und (List.length_map ..) J (QW gocmp (cmp_ok _ _) J J J J (Qv J J J (Qj (hK _ _ ?_))))))); refine Qz (Qw (Qq fun K hK => ?_)); refine Qx J J J (Qk ineq J J J J (Qj (hK _ _ ?_))); refine Qz (Q2 J (fun h => ?_) (fun h => ?_))
  · refine Qw (Qq fun K hK => ?_); refine Qx J J J (Qv J J J (Qj (hK _ _ ?_))); refine Qz (Q0 (QY ?_))
    have e : cmpI ((limbs a).length : Int) ((limbs b).length : Int) = cmpI (a : Int) (b : Int) := by
      rcases Nat.lt_trichotomy (limbs a).length (limbs b).length with h1 | h1 | h1
      · have := lt_of_len h1; rw [Xi, Xi, if_pos (by omega), if_pos (by omega)]
      · rw [h1] at h; simp [cmpI] at h
      · have := lt_of_len h1; rw [Xi, Xi, if_neg (by omega), if_pos (by omega), if_neg (by omega), if_pos (by omega)]
    rw [e]; refine QK [_] rfl (Qu J QQ) J J
  · have hl : (limbs a).length = (limbs b).length := by
      simp only [ne_eq, Classical.not_not] at h; unfold cmpI at h; split at h
      · cases h
      · split at h
        · cases h
        · omega
    clear h; refine Q1 (Qz (Qw (Qw (Qq fun K hK => ?_)))); refine Qx J J J (Qd J J sNat.und (List.length_map ..) J (Qk (isub (by omega) (by omega)) J J J J ?_)); refine Qv J J J (Qj (hK _ _ ?_)); refine Qz (Q4 ?_)
    refine Xj (α := Nat) (fun k => k ≤ (limbs a).length ∧ pre (limbs a) k - pre (limbs b) k = (a : Int) - b)
      (fun k => [(0, .ct (natC a)), (1, .ct (natC b)), (6, .ct (intC ((k : Int) - 1)))]) (fun _ => []) (fun k => k) (limbs a).length ⟨Nat.le_refl _, ?_⟩ (by exact QX J ⟨rfl, rfl, rfl, trivial⟩) ?_
    · have e1 := val_eq_pre a; have e2 := val_eq_pre b; rw [← hl] at e2; rw [e1, e2]
    intro k ⟨hk, hv⟩; dsimp only; refine Qw (Qw (Qq fun K hK => ?_)); refine Qx J J J (Qk igeq J J J J (Qj (hK _ _ ?_))); refine Qz (Q2 J (fun h => ?_) (fun h => ?_))
    · obtain ⟨q, rfl⟩ : ∃ q, k = q + 1 := ⟨k - 1, by omega⟩
      have e1 : (((q + 1 : Nat) : Int) - 1) = (q : Int) := by omega
      have e2 : (q : Int).toNat = q := Int.toNat_natCast q; rw [e1]; refine Q1 (Qz (Qw (Q4 (Qw ?_)))); refine Xu mixed 9 (.p 0 (.p 1 (.p 2 (.p 4 (.p 5 (.p 6 (.f 3 (.f 7 (.p 8 .done))))))))) (by kernel_rfl) (fun K hK => ?_); refine Qx J J J (Qx J J J (Ql J J J sNat (by omega) (X3 (by omega) (by omega)) J ?_)); refine Qx J J J (Qx J J J (Ql J J J sNat (by omega) (X3 (by omega) (by omega)) J ?_)); refine XQ J J J lInt J (XQ J J J lInt J (Qk ineq J J J J (Qj (hK _ _ ?_)))); refine Qz (Q2 J (fun h2 => ?_) (fun h2 => ?_))
      · refine Qw (Xu mixed 10 (.p 0 (.p 1 (.p 2 (.p 4 (.p 5 (.p 6 (.f 3 (.f 7 (.m 8 (.p 9 .done)))))))))) (by kernel_rfl) (fun K hK => ?_)); refine Qx J J J (Qx J J J (Ql J J J sNat (by omega) (X3 (by omega) (by omega)) J ?_)); refine Qx J J J (Qx J J J (Ql J J J sNat (by omega) (X3 (by omega) (by omega)) J ?_)); refine XQ J J J lInt J (XQ J J J lInt J (QW gocmp (cmp_ok _ _) J J J J ?_)); rw [e2] at h2 ⊢
        have e : cmpI ((limbs a).getD q 0) ((limbs b).getD q 0) = cmpI (a : Int) (b : Int) := by
          rcases Int.lt_or_gt_of_ne h2 with h3 | h3
          · have := pre_decides (Xh a) (Xh b) h3; rw [Xi, Xi, if_pos h3, if_pos (by omega)]
          · have := pre_decides (Xh b) (Xh a) h3; rw [Xi, Xi, if_neg (by omega), if_pos h3, if_neg (by omega), if_pos (by omega)]
        rw [e]; refine Qv J J J (Qj (hK _ _ ?_)); refine Qz (Q0 (Q8 (QY (QY (Q8 (QY ?_)))))); refine QK [_] rfl (Qu J QQ) J J
      · rw [e2] at h2; refine Q1 (Qz (Qq fun K hK => ?_)); refine Qx J J J (Qk (isub (by omega) (by omega)) J J J J ?_); refine Qv J J J (Qj (hK _ _ ?_)); refine Q3 (Q9 q (by omega) ⟨by omega, ?_⟩ (by exact QX J ⟨rfl, rfl, rfl, trivial⟩)); rw [Xs, Xs] at hv; have : (limbs a).getD q 0 = (limbs b).getD q 0 := Classical.not_not.1 h2; rw [this] at hv; omega
    · refine Qp (Qz (Qw (Qq fun K hK => ?_))); refine Qv J J J (Qj (hK _ _ ?_)); refine Qz (Q0 ?_)
      have hk0 : k = 0 := by omega
      subst hk0; rw [Z8, Z8] at hv; rw [Xi, if_neg (by omega), if_neg (by omega)]; refine QK [_] rfl (Qu J QQ) J J
theorem goCompare : InGo Tryz.prog 174 := InGo.of Tryz.func174 (by kernel_rfl) (by kernel_rfl)
set_option maxHeartbeats 2000000 in
theorem From_ok (n : Nat) (hn : n < 9223372036854775808) : Ok Tryz.prog 139 [intC n] (.fr (tupT [natC n, intC 0])) := by
  refine Ok.enter Tryz.func139 rfl _ Tryz.ntmps139 rfl ?_
  intro S w
  (refine Qw (Qq fun K hK => ?_); refine Qv rfl rfl rfl ?_; refine Qv rfl rfl rfl ?_; refine Qj (hK _ _ ?_); refine Qz (Qw (Qw (Qq fun K hK => ?_))); refine Qx rfl rfl rfl ?_; refine Qk ilss rfl rfl rfl rfl ?_; refine Qj (hK _ _ ?_); refine Qz (Xv rfl (Q1 (Qz (Qw (Qq fun K hK => ?_))))); refine Qv rfl rfl rfl ?_; refine Qj (hK _ _ ?_); refine Qz (Qw (Q4 ?_)))
  refine Xe 4 0 3 1 rfl rfl rfl ?_
  refine Xj (α := Nat × List Int) (fun s => s.1 ≤ n ∧ limbs n = s.2 ++ limbs s.1)
    (fun s => [(0, .ct (intC s.1)), (4, .own 0)]) (fun s => [(0, .row 3 1 (ints s.2))]) (fun s => s.1) (n, []) ⟨Nat.le_refl _, rfl⟩ (by exact QX rfl ⟨rfl, rfl, trivial⟩) ?_
  rintro ⟨m, zs⟩ ⟨hm, hv⟩
  dsimp only at hm hv ⊢
  have hl : zs.length ≤ 64 := by
    have h1 := congrArg List.length hv
    have h2 := XJ (n := n) (k := 3) (by omega)
    simp at h1; omega
  (refine Qw (Qw (Qq fun K hK => ?_)); refine Qx rfl rfl rfl ?_; refine Qk igtr rfl rfl rfl rfl ?_; refine Qj (hK _ _ ?_); refine Qz ?_)
  refine Q2 rfl (fun h => ?_) (fun h => ?_)
  · (refine Q1 (Qz (Qw (Q4 (Qq fun K hK => ?_)))); refine Qx rfl rfl rfl ?_; refine Qx rfl rfl rfl ?_; refine Qk iand30 rfl rfl rfl rfl ?_)
    refine Zq rfl rfl sNat rfl rfl rfl ?_
    refine Qt zs.length (ints (zs ++ [(m : Int) % 1073741824])) rfl rfl rfl rfl sNat (by simp) rfl (by omega) (by omega) (by simp [ints]) rfl ?_
    (refine Qv rfl rfl rfl ?_; refine Qj (hK _ _ ?_); refine Qz (Qq fun K hK => ?_); refine Qx rfl rfl rfl ?_; refine Qk ishr30 rfl rfl rfl rfl ?_; refine Qv rfl rfl rfl ?_; refine Qj (hK _ _ ?_); refine Q3 ?_)
    refine Q9 (m / 1073741824, zs ++ [(m : Int) % 1073741824]) (by dsimp only; omega) ⟨by dsimp only; omega, ?_⟩ ?_
    all_goals dsimp only
    · rw [hv, limbs_pos (n := m) (by omega)]; simp
    · exact QX rfl ⟨by rw [Int.natCast_ediv]; rfl, rfl, trivial⟩
  · have : m = 0 := by omega
    subst this
    rw [limbs_zero, List.append_nil] at hv
    subst hv
    refine St.freeze 0 _ rfl (Zw _ _) XZ ?_
    (refine Qp (Qz (Qw (Qq fun K hK => ?_))); refine Qx rfl rfl rfl ?_; refine Qv rfl rfl rfl ?_; refine Qv rfl rfl rfl ?_; refine Qj (hK _ _ ?_); refine Qz (Q0 ?_))
    refine QK [_, _] rfl (Qu rfl (Qu rfl QQ)) rfl rfl
theorem goFrom : InGo Tryz.prog 139 := InGo.of Tryz.func139 (by kernel_rfl) (by kernel_rfl)
end Go.Proofs.YtlkdkbdgnjcopaaGreat
namespace Go.Limbs
theorem val_set {xs : List Int} {p : Nat} (h : p < xs.length) (v : Int) : val (xs.set p v) = val xs + (v - xs.getD p 0) * BB ^ p := by
  induction xs generalizing p with
  | nil => simp at h
  | cons x xs ih =>
    cases p with
    | zero => simp [val]; omega
    | succ p =>
      have := ih (p := p) (by simpa using h); simp only [List.set_cons_succ, val, this, List.getD_cons_succ, Int.pow_succ]
      grind
theorem getD_set {xs : List Int} {p j : Nat} (h : p < xs.length) (v : Int) : (xs.set p v).getD j 0 = if p = j then v else xs.getD j 0 := by
  simp only [List.getD_eq_getElem?_getD, List.getElem?_set]; by_cases hp : p = j
  · subst hp; simp [h]
  · simp [hp]
theorem mul_bd {x y : Int} (hx : 0 ≤ x ∧ x < BB) (hy : 0 ≤ y ∧ y < BB) : 0 ≤ x * y ∧ x * y ≤ 1152921502459363329 := by
  simp only [BB] at hx hy; refine ⟨Int.mul_nonneg hx.1 hy.1, ?_⟩; have h1 : x * y ≤ 1073741823 * 1073741823 := Int.mul_le_mul (by omega) (by omega) hy.1 (by omega); omega
theorem limbs_mul_len {a b : Nat} : (limbs (a * b)).length ≤ (limbs a).length + (limbs b).length := by
  apply XJ
  rw [Nat.pow_add]; exact Nat.mul_lt_mul'' (X9 (Nat.le_refl _)) (X9 (Nat.le_refl _))
end Go.Limbs
namespace Go.Proofs.YtlkdkbdgnjcopaaGreat
open Go.Own Go.Limbs
attribute [local irreducible] St Ops Go.Own.Fin Ok
theorem top_step {A : List Int} {i : Nat} {vo rest b : Int} (hv : vo * b + rest * BB ^ (i + 1) = val A - pre A (i + 1)) :
    (vo + (rest * 1073741824 + A.getD i 0) / b * BB ^ i) * b + (rest * 1073741824 + A.getD i 0) % b * BB ^ i = val A - pre A i := by
  rw [Xs, Int.pow_succ] at hv; have e := Int.mul_ediv_add_emod (rest * 1073741824 + A.getD i 0) b; simp only [BB] at *; generalize (rest * 1073741824 + A.getD i 0) / b = q at *; generalize (rest * 1073741824 + A.getD i 0) % b = m at *
  grind
set_option maxHeartbeats 2000000 in
theorem small_ok (a : Nat) (b : Int) (hb : 0 < b) (hb2 : b < BB) (hl : (limbs a).length ≤ 256) : Ok Tryz.prog 175 [natC a, intC b] (.fr (tupT [natC ((a : Int) / b).toNat, intC ((a : Int) % b)])) := by
  simp only [BB] at hb2
  refine Ok.enter Tryz.func175 J _ Tryz.ntmps175 J ?_
  intro S w; refine Qw (Qq fun K hK => ?_); refine Qv J J J (Qv J J J (Qj (hK _ _ ?_))); refine Qz (Qw (Qq fun K hK => ?_)); refine Qx J J J (Qd J J sNat.und (List.length_map ..) J (Ops.make 0 (limbs a).length J J J J sNat (by omega) (by omega) J J J ?_)); rw [ints_made]; refine Qv J J J (Qj (hK _ _ ?_)); refine Qz (Qw (Qq fun K hK => ?_)); refine Qv J J J (Qj (hK _ _ ?_)); refine Qz (Qw (Qw (Qq fun K hK => ?_))); refine Qx J J J (Qd J J sNat.und (List.length_map ..) J (Qk (isub (by omega) (by omega)) J J J J ?_)); refine Qv J J J (Qj (hK _ _ ?_)); refine Qz (Q4 ?_)
  refine Xj (α := Nat × List Int × Int) (fun s => s.1 ≤ (limbs a).length ∧ s.2.1.length = (limbs a).length ∧ OKL s.2.1 ∧ (∀ j, j < s.1 → s.2.1.getD j 0 = 0) ∧ 0 ≤ s.2.2 ∧ s.2.2 < b ∧ val s.2.1 * b + s.2.2 * BB ^ s.1 = val (limbs a) - pre (limbs a) s.1)
    (fun s => [(0, .ct (natC a)), (1, .ct (intC b)), (6, .own 0), (7, .ct (intC s.2.2)), (8, .ct (intC ((s.1 : Int) - 1)))])
    (fun s => [(0, .row 3 1 (ints s.2.1))]) (fun s => s.1) ((limbs a).length, List.replicate (limbs a).length 0, 0) ⟨Nat.le_refl _, by simp, OKL.zeros _, ?_, Int.le_refl _, hb, ?_⟩ (by exact QX J ⟨rfl, rfl, rfl, rfl, rfl, trivial⟩) ?_
  · intro j _; simp [List.getD_eq_getElem?_getD, List.getElem?_replicate]; split <;> rfl
  · dsimp only; rw [val_zeros, Zr (Nat.le_refl _)]; simp
  rintro ⟨q, zs, rest⟩ ⟨hq, hzl, hok, hz, hr0, hr1, hv⟩
  dsimp only at hq hzl hok hz hr0 hr1 hv ⊢; refine Qw (Qw (Qq fun K hK => ?_)); refine Qx J J J (Qk igeq J J J J (Qj (hK _ _ ?_))); refine Qz (Q2 J (fun h => ?_) (fun h => ?_))
  · obtain ⟨i, rfl⟩ : ∃ i, q = i + 1 := ⟨q - 1, by omega⟩
    have e1 : (((i + 1 : Nat) : Int) - 1) = (i : Int) := by omega
    have e2 : (i : Int).toNat = i := Int.toNat_natCast i
    have e3 : (i : Int).toNat * 1 = i := by omega
    have bx := (Xh a).get i; simp only [BB] at bx; rw [e1]; refine Q1 (Qz (Qw (Q4 (Qw (Qq fun K hK => ?_))))); refine Qx J J J (Qk (ishl30 (by omega) (by omega)) J J J J ?_); refine Qx J J J (Qx J J J (Ql J J J sNat (by omega) (X3 (by omega) (by omega)) J ?_))
    refine XQ J J J lInt J ?_
    rw [e2]
    refine Qk (ior30 (by omega) (by omega) (by omega) (by omega)) J J J J ?_
    refine Qv J J J (Qj (hK _ _ ?_)); refine Qz (Xu mixed 9 (.p 0 (.p 1 (.p 2 (.p 3 (.p 4 (.p 5 (.p 6 (.p 7 (.p 8 (.a 9 (.p 10 .done))))))))))) (by kernel_rfl) (fun K hK => ?_)); refine Qx J J J (Qx J J J (Qx J J J (Qx J J J (Qk (iquo (by omega) (by omega) (by omega)) J J J J ?_)))); refine Qx J J J (Qx J J J (Qk (irem (by omega) (by omega)) J J J J ?_)); skip
    refine Zv (limbs a).length J J J (by simp; omega) J sNat (by omega) (by omega) J ?_
    rw [e3]
    refine X6 J J J J J zInt (by simp [Ent.cs]; omega) ?_
    simp only [Ent.setc, ints_set]; refine Qv J J J (Qj (hK _ _ ?_)); refine Qz (Qq fun K hK => ?_); refine Qx J J J (Qk (isub (by omega) (by omega)) J J J J ?_); refine Qv J J J (Qj (hK _ _ ?_))
    refine Q3 ?_
    have d1 : 0 ≤ (rest * 1073741824 + (limbs a).getD i 0) / b := Int.ediv_nonneg (by omega) (by omega)
    have d2 : (rest * 1073741824 + (limbs a).getD i 0) / b < 1073741824 := by
      apply Int.ediv_lt_of_lt_mul hb
      have : (rest + 1) * 1073741824 ≤ b * 1073741824 := Int.mul_le_mul_of_nonneg_right (by omega) (by decide); rw [Int.mul_comm 1073741824 b]; omega
    have d3 := Int.emod_nonneg (rest * 1073741824 + (limbs a).getD i 0) (b := b) (by omega); have d4 := Int.emod_lt_of_pos (rest * 1073741824 + (limbs a).getD i 0) hb; refine Q9 (i, zs.set i ((rest * 1073741824 + (limbs a).getD i 0) / b), (rest * 1073741824 + (limbs a).getD i 0) % b) (by dsimp only; omega) ⟨by dsimp only; omega, by simp [hzl], ?_, ?_, d3, d4, ?_⟩ (by exact QX J ⟨rfl, rfl, rfl, rfl, rfl, trivial⟩)
    all_goals dsimp only
    · exact hok.set _ (by simp only [BB]; omega)
    · intro j hj; rw [getD_set (by omega), if_neg (by omega)]; exact hz j (by omega)
    · rw [val_set (by omega), hz i (by omega), Int.sub_zero]; exact top_step hv
  · have hq0 : q = 0 := by omega
    subst hq0
    have e4 : val zs * b + rest = a := by rw [Z8, ZW] at hv; simpa using hv
    have e5 : (a : Int) / b = val zs ∧ (a : Int) % b = rest := by
      rw [← e4]; constructor
      · rw [Int.add_comm, Int.add_mul_ediv_right _ _ (by omega), Int.ediv_eq_zero_of_lt hr0 hr1]; omega
      · rw [Int.add_comm, Int.add_mul_emod_self_right, Int.emod_eq_of_lt hr0 hr1]
    rw [e5.1, e5.2]; refine Qp (Qz (Qw (Qq fun K hK => ?_))); refine Qx J J J (X2 0 _ J (Zw _ _) XZ (QW gotrim (trim_ok _ (by omega)) J J J J ?_)); rw [Z7 hok]; refine Qx J J J (Qv J J J (Qv J J J (Qj (hK _ _ ?_)))); refine Qz (Q0 ?_); refine QK [_, _] rfl (Qu J (Qu J QQ)) J J
theorem gosmall : InGo Tryz.prog 175 := InGo.of Tryz.func175 (by kernel_rfl) (by kernel_rfl)
theorem ints_ones (xs : List Int) : ones (xs.map intC) = true := by
  induction xs with
  | nil => rfl
  | cons x xs ih => simp [ones, CT.one, Value.oneCell', ih]
theorem Clone_ok (xs : List Int) (hl : xs.length ≤ 1000000) : Ok Tryz.prog 172 [intsC xs] (intsC xs) := by
  refine Ok.enter Tryz.func172 J _ Tryz.ntmps172 J ?_
  intro S w; refine Qw (Qq fun K hK => ?_); refine Qv J J J (Qj (hK _ _ ?_)); refine Qz (Qw (Qw (Qq fun K hK => ?_))); refine Qx J J J (Ops.eqNil J J sNat.und J (fun b hb => ?_)); refine Qj (hK _ _ ?_); refine Qz (Xy J (fun h => ?_) (fun h => ?_))
  · have h0 := hb h
    have : xs = [] := by simpa using h0
    subst this; refine Qw (Qq fun K hK => ?_); refine Qv J J J (Qj (hK _ _ ?_)); refine Qz (Q0 (QY ?_)); refine QK [_] rfl (AllRes.nilS 1 J QQ) J J
  · clear hb h; refine Q1 (Qz (Qw (Qq fun K hK => ?_))); refine Ops.lit0E 0 J J J sNat J J J (Qx J J J (Ops.append 0 (ints xs) J J J J sNat J ?_ (by simp; omega) (by simp; omega) ?_ J ?_))
    · rw [flat_one]; exact ints_ones xs
    · rw [flat_one]; rfl
    refine Qv J J J (Qj (hK _ _ ?_)); refine Qz (Q0 ?_); refine Z6 0 _ J (Zw _ _) XZ (QK [_] rfl (Qu J QQ) J J)
theorem goClone : InGo Tryz.prog 172 := InGo.of Tryz.func172 (by kernel_rfl) (by kernel_rfl)
theorem natC_zero : natC 0 = intsC [] := by show intsC (limbs 0) = intsC []; rw [limbs_zero]
theorem Z1 {b : Nat} (h0 : 0 < b) (h : b < 1073741824) : limbs b = [(b : Int)] := by
  rw [limbs_pos (by omega), Nat.mod_eq_of_lt h, Nat.div_eq_of_lt h, limbs_zero]
set_option maxHeartbeats 2000000 in
theorem DivMod_small (a b : Nat) (h0 : 0 < b) (hb : b < 1073741824) (hl : (limbs a).length ≤ 256) : Ok Tryz.prog 138 [natC a, natC b] (.fr (tupT [natC (a / b), natC (a % b), intC 0])) := by
  have hlb : (limbs b).length = 1 := by rw [Z1 h0 hb]; rfl
  refine Ok.enter Tryz.func138 J _ Tryz.ntmps138 J ?_
  intro S w; refine Qw (Qq fun K hK => ?_); refine Qv J J J (Qv J J J (Qv J J J (Qj (hK _ _ ?_)))); refine Qz (Qw (Qq fun K hK => ?_)); refine Qx J J J (QW gotrim (trim_ok _ (by omega)) J J J J ?_); rw [trim_of_limbs]; refine Qv J J J (Qj (hK _ _ ?_)); refine Qz (Qw (Qq fun K hK => ?_)); refine Qx J J J (Qd J J sNat.und (List.length_map ..) J (Qv J J J (Qj (hK _ _ ?_)))); refine Qz (Qw (Q4 (Qw (Qq fun K hK => ?_)))); refine Qx J J J (Qk ieql J J J J (Qv J J J (Qj (hK _ _ ?_)))); refine Qz (Q2 J (fun h => ?_) (fun h => ?_))
  · omega
  clear h; refine Qw (Qq fun K hK => ?_); refine Qx J J J (Qx J J J (QW goCompare (Compare_ok a b (by omega) (by omega)) J J J J ?_)); refine Qk ilss J J J J (Qv J J J (Qj (hK _ _ ?_))); refine Qz (Q2 J (fun h => ?_) (fun h => ?_))
  · have hlt : a < b := by
      rw [Xi] at h; split at h
      · omega
      · split at h <;> omega
    refine Qw (Qq fun K hK => ?_); refine Qx J J J (QW goClone (Clone_ok _ (by omega)) J J J J ?_); refine Qv J J J (Qv J J J (Qv J J J (Qj (hK _ _ ?_)))); refine Qz (Q0 (Q8 (QY ?_))); rw [Nat.div_eq_of_lt hlt, Nat.mod_eq_of_lt hlt, natC_zero]; refine QK [_, _, _] rfl (AllRes.nilS 1 J (Qu J (Qu J QQ))) J J
  clear h; refine Qw (Qq fun K hK => ?_); refine Qx J J J (Qk ieql J J J J (Qv J J J (Qj (hK _ _ ?_)))); refine Qz (Q2 J (fun h => ?_) (fun h => ?_))
  · have e0 : (limbs b).getD (0 : Int).toNat 0 = b := by rw [Z1 h0 hb]; rfl
    refine Qw (Qq fun K hK => ?_); refine Qx J J J (Qx J J J (Ql J J J sNat (by omega) (X3 (by omega) (by omega)) J ?_))
    refine XQ J J J lInt J ?_
    rw [e0]
    refine QW gosmall (small_ok a b (by omega) (by simp only [BB]; omega) hl) J J J J ?_
    have e1 : ((a : Int) / (b : Int)).toNat = a / b := by rw [← Int.natCast_ediv, Int.toNat_natCast]
    rw [e1]; refine Qx J J J (Qf J J J J (Qf J J J J (Qv J J J (Qv J J J (Qj (hK _ _ ?_)))))); refine Qz (Qw (Qq fun K hK => ?_)); refine Qx J J J (Qx J J J (Zq J J sNat J J J (QW gotrim (trim_ok [(a : Int) % b] (by simp)) J J J J ?_)))
    have e2 : trimL [(a : Int) % b] = limbs (a % b) := by
      have hm := Nat.mod_lt a h0; rw [Z7 (OKL.cons (by simp only [BB]; omega) OKL.nil)]; simp only [val]; congr 1
    rw [e2]; refine Qv J J J (Qv J J J (Qv J J J (Qj (hK _ _ ?_)))); refine Qz (Q0 (Q8 (QY ?_))); refine QK [_, _, _] rfl (Qu J (Qu J (Qu J QQ))) J J
  · omega
theorem goDivMod : InGo Tryz.prog 138 := InGo.of Tryz.func138 (by kernel_rfl) (by kernel_rfl)
set_option maxHeartbeats 2000000 in
theorem Gcd_small (a b : Nat) (hb : b < 1073741824) (hl : (limbs a).length ≤ 256) : Ok Tryz.prog 137 [natC a, natC b] (natC (Nat.gcd a b)) := by
  have hlb : (limbs b).length ≤ 1 := XJ (k := 1) (by omega)
  refine Ok.enter Tryz.func137 J _ Tryz.ntmps137 J ?_
  intro S w; refine Qw (Qq fun K hK => ?_); refine Qv J J J (Qj (hK _ _ ?_)); refine Qz (Qw (Qw (Qq fun K hK => ?_))); refine Qx J J J (QW goClone (Clone_ok _ (by omega)) J J J J ?_); refine Qx J J J (QW goClone (Clone_ok _ (by omega)) J J J J ?_); refine Qv J J J (Qv J J J (Qj (hK _ _ ?_))); refine Qz (Q4 ?_)
  refine Xj (α := Nat × Nat) (fun s => s.2 < 1073741824 ∧ (limbs s.1).length ≤ 256 ∧ Nat.gcd s.1 s.2 = Nat.gcd a b)
    (fun s => [(0, .ct (natC s.1)), (1, .ct (natC s.2))]) (fun _ => []) (fun s => s.2) (a, b) ⟨hb, hl, rfl⟩ (by exact QX J ⟨rfl, rfl, trivial⟩) ?_
  rintro ⟨p, q⟩ ⟨hq, hp, hg⟩
  dsimp only at hq hp hg ⊢; refine Qw (Qw (Qq fun K hK => ?_)); refine Qx J J J (Qd J J sNat.und (List.length_map ..) J (Qk igtr J J J J (Qj (hK _ _ ?_)))); refine Qz (Q2 J (fun h => ?_) (fun h => ?_))
  · have hq0 : 0 < q := by
      rcases Nat.eq_zero_or_pos q with h0 | h0
      · subst h0; rw [limbs_zero] at h; simp at h
      · exact h0
    refine Q1 (Qz (Q4 (Qw (Qq fun K hK => ?_)))); refine Qx J J J (Qx J J J (QW goDivMod (DivMod_small p q hq0 hq hp) J J J J (Qx J J J (Qf J J J J (Qf J J J J (Qf J J J J (Qv J J J (Qv J J J (Qv J J J (Qj (hK _ _ ?_))))))))))); refine Qz (Qw (Qw (Qq fun K hK => ?_))); refine Qx J J J (Qk ineq J J J J (Qj (hK _ _ ?_))); refine Qz (Xv J (Q1 (Qz (Qq fun K hK => ?_)))); refine Qx J J J (Qx J J J (Qv J J J (Qv J J J (Qj (hK _ _ ?_))))); refine Qb (Q3 ?_); have hm := Nat.mod_lt p hq0; refine Q9 (q, p % q) hm ⟨by dsimp only; omega, ?_, ?_⟩ (by exact QX J ⟨rfl, rfl, trivial⟩)
    · have := XJ (n := q) (k := 1) (by omega); dsimp only; omega
    · dsimp only; rw [← hg, Nat.gcd_comm, ← Nat.gcd_rec, Nat.gcd_comm]
  · have hq0 : q = 0 := Zs (List.eq_nil_of_length_eq_zero (by omega))
    have e : p = Nat.gcd a b := by rw [← hg, hq0, Nat.gcd_zero_right]
    rw [← e]; refine Qp (Qz (Qw (Qq fun K hK => ?_))); refine Qx J J J (Qv J J J (Qj (hK _ _ ?_))); refine Qz (Q0 ?_); refine QK [_] rfl (Qu J QQ) J J
theorem goGcd : InGo Tryz.prog 137 := InGo.of Tryz.func137 (by kernel_rfl) (by kernel_rfl)
end Go.Proofs.YtlkdkbdgnjcopaaGreat
namespace Go.Proofs.YtlkdkbdgnjcopaaGreat
open Go.Own Go.Limbs
theorem uBool : Tryz.prog.underlying 4 = some .bool := Tryz.underlying4
theorem zvFrac : (Tryz.prog.info? 53).map (·.zero) = some (some (.agg #[.bool false, .slice none 0 0, .slice none 0 0])) := by kernel_rfl
theorem fF0 : fldInfo Tryz.prog 53 0 = some (0, some 1) := by kernel_rfl
theorem fF1 : fldInfo Tryz.prog 53 1 = some (1, some 1) := by kernel_rfl
theorem fF2 : fldInfo Tryz.prog 53 2 = some (2, some 1) := by kernel_rfl
theorem Zc : LdN Tryz.prog 53 3 := LdN.of _ Tryz.underlying53 rfl (by kernel_rfl)
theorem szFrac : (Tryz.prog.info? 53).map (·.size) = some 3 := by kernel_rfl
theorem bFrac : bInfo Tryz.prog 53 = some (.agg #[.bool false, .slice none 0 0, .slice none 0 0], [(0, some 1), (1, some 1), (2, some 1)]) := by kernel_rfl
structure Fr where
  neg : Bool
  num : Nat
  den : Nat
abbrev frCs (f : Fr) : List CT := [boolC f.neg, natC f.num, natC f.den]
abbrev fracC (f : Fr) : CT := .fr (aggT (frCs f))
abbrev fracsC (fs : List Fr) : CT := .fr (sliceT 3 (fs.map frCs))
abbrev frac0 : CT := .fr (aggT [boolC false, .ex (.slice none 0 0), .ex (.slice none 0 0)])
attribute [local irreducible] Go.Own.Fin Ok Ops St
theorem limbs_len_pos {n : Nat} : 0 < (limbs n).length ↔ n ≠ 0 := by
  constructor
  · intro h h0; subst h0; rw [limbs_zero] at h; simp at h
  · intro h; rw [limbs_pos h]; simp
theorem limbs_len_posI {n : Nat} : decide ((limbs n).length > (0 : Int)) = decide (n ≠ 0) := by
  rw [decide_eq_decide, ← limbs_len_pos]; omega
theorem goAdd : InGo Tryz.prog 140 := InGo.of Tryz.func140 (by kernel_rfl) (by kernel_rfl)
set_option maxHeartbeats 2000000 in
theorem magnitude_ok (n : Int) (h1 : -9223372036854775808 ≤ n) (h2 : n ≤ 9223372036854775807) : Ok Tryz.prog 101 [intC n] (natC n.natAbs) := by
  refine Ok.enter Tryz.func101 rfl _ Tryz.ntmps101 rfl ?_
  intro S w
  (refine Qw (Qq fun K hK => ?_); refine Qv rfl rfl rfl ?_; refine Qj (hK _ _ (Qz (Qw (Qw ?_)))); clear hK K; refine Qq (fun K hK => ?_); refine Qx rfl rfl rfl ?_; refine Qk ineq rfl rfl rfl rfl ?_; refine Qj (hK _ _ (Qz ?_)); clear hK K)
  refine Q2 rfl (fun h => ?_) (fun h => ?_)
  · (refine Qw (Qq fun K hK => ?_); refine Qx rfl rfl rfl ?_; refine Qx rfl rfl rfl ?_)
    refine Ops.ineg rfl rfl (by omega) (by omega) rfl ?_
    (refine Ops.max2 rfl rfl rfl rfl ?_; refine Qv rfl rfl rfl ?_; refine Qj (hK _ _ (Qz (Qw ?_))); clear hK K; refine Qq (fun K hK => ?_); refine Qx rfl rfl rfl ?_)
    rw [show max n (-n) = (n.natAbs : Int) by omega]
    refine QW goFrom (From_ok n.natAbs (by omega)) rfl rfl rfl rfl ?_
    (refine Qx rfl rfl rfl ?_; refine Qf rfl rfl rfl rfl ?_; refine Qf rfl rfl rfl rfl ?_; refine Qv rfl rfl rfl ?_; refine Qv rfl rfl rfl ?_; refine Qj (hK _ _ (Qz (Qw ?_))); clear hK K; refine Qq (fun K hK => ?_); refine Qx rfl rfl rfl ?_; refine Qv rfl rfl rfl ?_; refine Qj (hK _ _ (Qz (Q0 (QY ?_)))); clear hK K)
    refine QK [_] rfl (Qu rfl QQ) rfl rfl
  · (refine Q1 (Qz (Qw (Qq fun K hK => ?_))))
    refine QW goFrom (From_ok 4611686018427387904 (by omega)) rfl rfl rfl rfl ?_
    (refine Qx rfl rfl rfl ?_; refine Qf rfl rfl rfl rfl ?_; refine Qf rfl rfl rfl rfl ?_; refine Qv rfl rfl rfl ?_; refine Qv rfl rfl rfl ?_; refine Qj (hK _ _ (Qz (Qw ?_))); clear hK K; refine Qq (fun K hK => ?_); refine Qx rfl rfl rfl ?_; refine Qx rfl rfl rfl ?_)
    refine QW goAdd (Add_list _ _ ?_ ?_ (Xh _) (Xh _)) rfl rfl rfl rfl ?_
    · exact Nat.le_trans (XJ (k := 3) (by decide)) (by decide)
    · exact Nat.le_trans (XJ (k := 3) (by decide)) (by decide)
    rw [ZW]
    (refine Qx rfl rfl rfl ?_; refine Qf rfl rfl rfl rfl ?_; refine Qf rfl rfl rfl rfl ?_; refine Qv rfl rfl rfl ?_; refine Qv rfl rfl rfl ?_; refine Qj (hK _ _ (Qz (Qw ?_))); clear hK K; refine Qq (fun K hK => ?_); refine Qx rfl rfl rfl ?_; refine Qv rfl rfl rfl ?_; refine Qj (hK _ _ (Qz (Q0 ?_))); clear hK K)
    refine QK [_] rfl (Qu rfl QQ) (by congr 1; have : n.natAbs = 9223372036854775808 := by omega
                                      rw [this]; rfl) rfl
theorem gomagnitude : InGo Tryz.prog 101 := InGo.of Tryz.func101 (by kernel_rfl) (by kernel_rfl)
def sumN (n1 : Bool) (a : Nat) (n2 : Bool) (b : Nat) : Nat := if n1 = n2 then a + b else if a < b then b - a else a - b
def sumS (n1 : Bool) (a : Nat) (n2 : Bool) (b : Nat) : Bool := if n1 = n2 then n1 else if a < b then n2 else n1
def redF (neg : Bool) (a b : Nat) : Fr := ⟨neg && decide (a / Nat.gcd a b ≠ 0), a / Nat.gcd a b, b / Nat.gcd a b⟩
set_option maxHeartbeats 2000000 in
theorem reduced_small (neg : Bool) (a b : Nat) (h0 : 0 < b) (hb : b < 1073741824) (hl : (limbs a).length ≤ 256) : Ok Tryz.prog 100 [boolC neg, natC a, natC b] (fracC (redF neg a b)) := by
  have hg0 : 0 < Nat.gcd a b := Nat.gcd_pos_of_pos_right _ h0
  have hg1 : Nat.gcd a b ≤ b := Nat.gcd_le_right _ h0
  have hlb : (limbs b).length ≤ 1 := XJ (k := 1) (by omega)
  refine Ok.enter Tryz.func100 rfl _ Tryz.ntmps100 rfl ?_
  intro S w
  have e0 : redF neg a b = ⟨neg && decide (a / Nat.gcd a b ≠ 0), a / Nat.gcd a b, b / Nat.gcd a b⟩ := rfl
  rw [e0]
  clear e0
  have h1 := Gcd_small a b hb hl
  generalize Nat.gcd a b = g at *
  (refine Qw (Qq fun K hK => ?_); refine Qg 0 rfl rfl (by with_reducible exact zvFrac) rfl rfl rfl ?_; refine Qj (hK _ _ (Qz (Qw ?_))); clear hK K; refine Qq (fun K hK => ?_); refine Qx rfl rfl rfl ?_; refine Qx rfl rfl rfl ?_)
  refine QW goGcd h1 rfl rfl rfl rfl ?_
  (refine Qv rfl rfl rfl ?_; refine Qj (hK _ _ (Qz (Qw ?_))); clear hK K; refine Qq (fun K hK => ?_); refine Qx rfl rfl rfl ?_; refine Qx rfl rfl rfl ?_)
  refine QW goDivMod (DivMod_small a g hg0 (by omega) hl) rfl rfl rfl rfl ?_
  (refine Qx rfl rfl rfl ?_; refine Qf rfl rfl rfl rfl ?_; refine Qf rfl rfl rfl rfl ?_; refine Qf rfl rfl rfl rfl ?_; refine Qv rfl rfl rfl ?_; refine Qv rfl rfl rfl ?_; refine Qv rfl rfl rfl ?_; refine Qj (hK _ _ (Qz (Qw ?_))); clear hK K; refine Qq (fun K hK => ?_); refine Qx rfl rfl rfl ?_; refine Qx rfl rfl rfl ?_)
  refine QW goDivMod (DivMod_small b g hg0 (by omega) (by omega)) rfl rfl rfl rfl ?_
  (refine Qx rfl rfl rfl ?_; refine Qf rfl rfl rfl rfl ?_; refine Qf rfl rfl rfl rfl ?_; refine Qf rfl rfl rfl rfl ?_; refine Qv rfl rfl rfl ?_; refine Qv rfl rfl rfl ?_; refine Qv rfl rfl rfl ?_; refine Qj (hK _ _ (Qz (Qw ?_))); clear hK K; refine Qq (fun K hK => ?_); refine Qx rfl rfl rfl ?_; refine Qx rfl rfl rfl ?_)
  refine X5 32 rfl (fun h => ?_) (fun h => ?_)
  · (refine Qx rfl rfl rfl ?_; refine Qd rfl rfl (by with_reducible exact sNat.und) (List.length_map ..) rfl ?_; refine Qk igtr rfl rfl rfl rfl ?_; refine QZ rfl rfl rfl rfl ?_; refine Qx rfl rfl rfl ?_; refine Qx rfl rfl rfl ?_)
    refine Qs rfl (by with_reducible exact bFrac) rfl (.one rfl rfl rfl rfl (.one rfl rfl rfl rfl (.one rfl rfl rfl rfl .nil))) rfl ?_
    (refine Qc 3 rfl rfl rfl rfl rfl (by with_reducible exact szFrac) rfl rfl ?_; refine Qj (hK _ _ (Qz (Q0 ?_))); clear hK K)
    refine QK [_] rfl (Qi (n := 3) rfl rfl (by with_reducible exact Zc) rfl QQ) (by rw [← limbs_len_posI, h]; rfl) rfl
  · (refine Qy rfl rfl rfl ?_; refine Qy rfl rfl rfl ?_; refine Qy rfl rfl rfl ?_; refine QU rfl rfl rfl rfl ?_; refine Qx rfl rfl rfl ?_; refine Qx rfl rfl rfl ?_)
    refine Qs rfl (by with_reducible exact bFrac) rfl (.one rfl rfl rfl rfl (.one rfl rfl rfl rfl (.one rfl rfl rfl rfl .nil))) rfl ?_
    (refine Qc 3 rfl rfl rfl rfl rfl (by with_reducible exact szFrac) rfl rfl ?_; refine Qj (hK _ _ (Qz (Q0 ?_))); clear hK K)
    refine QK [_] rfl (Qi (n := 3) rfl rfl (by with_reducible exact Zc) rfl QQ) (by rw [h]; rfl) rfl
theorem goreduced : InGo Tryz.prog 100 := InGo.of Tryz.func100 (by kernel_rfl) (by kernel_rfl)
end Go.Proofs.YtlkdkbdgnjcopaaGreat
namespace Go.Proofs.YtlkdkbdgnjcopaaGreat
open Go.Own Go.Limbs
def sg (n : Bool) (a : Nat) : Int := if n then -(a : Int) else a
def ofQ (q : Rat) : Fr := ⟨decide (q.num < 0), q.num.natAbs, q.den⟩
abbrev ratC (q : Rat) : CT := fracC (ofQ q)
theorem natAbs_sg (n : Bool) (a : Nat) : (sg n a).natAbs = a := by unfold sg; split <;> omega
theorem redF_q (n : Bool) (a b : Nat) (hb : 0 < b) : redF n a b = ofQ (mkRat (sg n a) b) := by
  have hb' : b ≠ 0 := by omega
  have hg : 0 < Nat.gcd a b := Nat.gcd_pos_of_pos_right _ hb; rw [Rat.mkRat_def, dif_neg hb', Rat.normalize_eq]; unfold redF ofQ; simp only [natAbs_sg]; have hd : (Nat.gcd a b : Int) ∣ (a : Int) := Int.natCast_dvd_natCast.mpr (Nat.gcd_dvd_left a b)
  have e1 : (sg n a / (Nat.gcd a b : Int)) = sg n (a / Nat.gcd a b) := by
    unfold sg; split
    · rw [Int.neg_ediv_of_dvd hd, Int.natCast_ediv]
    · rw [Int.natCast_ediv]
  rw [e1, natAbs_sg]
  congr 1
  generalize a / Nat.gcd a b = c; unfold sg; cases n
  · simp
  · show (true && decide (c ≠ 0)) = decide (-(c : Int) < 0); rw [Bool.true_and, decide_eq_decide]; omega
theorem from_redF (n d : Int) (hd : d ≠ 0) : redF (decide (n < 0) != decide (d < 0)) n.natAbs d.natAbs = ofQ (Rat.divInt n d) := by
  rw [redF_q _ _ _ (by omega)]
  congr 1
  have e : sg (decide (n < 0) != decide (d < 0)) n.natAbs = if d < 0 then -n else n := by
    unfold sg
    by_cases h1 : n < 0 <;> by_cases h2 : d < 0 <;> simp [h1, h2] <;> omega
  rw [e]; rcases d with d | d
  · rw [if_neg (by simp)]; rfl
  · rw [if_pos (by omega)]; show mkRat (-n) (d + 1) = Rat.normalize (-n) (d + 1) (by omega); rw [Rat.normalize_eq_mkRat]
attribute [local irreducible] Go.Own.Fin Ok Ops St
def Sz (a : Nat) : Prop := (limbs a).length ≤ 30
theorem dne (p q : Bool) : decide (p ≠ q) = (p != q) := by cases p <;> cases q <;> rfl
set_option maxHeartbeats 2000000 in
theorem FFrom_ok (n d : Int) (h1 : -9223372036854775808 ≤ n) (h2 : n ≤ 9223372036854775807) (h3 : -1073741824 < d) (h4 : d < 1073741824) (h0 : d ≠ 0) : Ok Tryz.prog 54 [intC n, intC d] (.fr (tupT [ratC (Rat.divInt n d), intC 0])) := by
  have hl : (limbs n.natAbs).length ≤ 3 := XJ (k := 3) (by omega)
  rw [show ratC (Rat.divInt n d) = fracC (redF (decide (n < 0) != decide (d < 0)) n.natAbs d.natAbs) from by rw [from_redF n d h0]]
  refine Ok.enter Tryz.func54 rfl _ Tryz.ntmps54 rfl ?_
  intro S w
  (refine Qw (Qq fun K hK => ?_); refine Qg 0 rfl rfl (by with_reducible exact zvFrac) rfl rfl rfl ?_; refine Qv rfl rfl rfl ?_; refine Qj (hK _ _ (Qz (Qw (Qw ?_)))); clear hK K; refine Qq (fun K hK => ?_); refine Qx rfl rfl rfl ?_; refine Qk ieql rfl rfl rfl rfl ?_; refine Qj (hK _ _ (Qz ?_)); clear hK K)
  refine Q2 rfl (fun h => absurd h h0) (fun h => ?_)
  (refine Q1 (Qz (Qw (Qq fun K hK => ?_))); refine Qx rfl rfl rfl ?_; refine Qk ilss rfl rfl rfl rfl ?_; refine Qx rfl rfl rfl ?_; refine Qk ilss rfl rfl rfl rfl ?_)
  refine Ops.bne rfl rfl rfl uBool rfl ?_
  rw [dne]
  (refine Qx rfl rfl rfl ?_)
  refine QW gomagnitude (magnitude_ok n h1 h2) rfl rfl rfl rfl ?_
  (refine Qx rfl rfl rfl ?_)
  refine QW gomagnitude (magnitude_ok d (by omega) (by omega)) rfl rfl rfl rfl ?_
  refine QW goreduced (reduced_small _ n.natAbs d.natAbs (by omega) (by omega) (by omega)) rfl rfl rfl rfl ?_
  (refine Qc 3 rfl rfl rfl rfl rfl (by with_reducible exact szFrac) rfl rfl ?_; refine Qv rfl rfl rfl ?_; refine Qj (hK _ _ (Qz (Q0 ?_))); clear hK K)
  refine QK [_, _] rfl (Qi (n := 3) rfl rfl (by with_reducible exact Zc) rfl (Qu rfl QQ)) rfl rfl
theorem goFFrom : InGo Tryz.prog 54 := InGo.of Tryz.func54 (by kernel_rfl) (by kernel_rfl)
theorem rOrder_ok (x y : Int) : Ok Tryz.prog 171 [intC x, intC y] (intC (cmpI x y)) := by
  refine Ok.enter Tryz.func171 J _ Tryz.ntmps171 J ?_
  intro S w; refine Qw (Qq fun K hK => ?_); refine Qv J J J (Qj (hK _ _ (Qz (Qw (Qw ?_))))); clear hK K; refine Qq (fun K hK => ?_); refine Qx J J J (Qx J J J (Qk ilss J J J J (Qj (hK _ _ (Qz ?_))))); clear hK K; refine Q2 J (fun h => ?_) (fun h => ?_)
  · refine Qw (Qq fun K hK => ?_); refine Qv J J J (Qj (hK _ _ (Qz (Q0 (QY ?_))))); clear hK K; refine QK [_] rfl (Qu J QQ) (by rw [Xi, if_pos h]; rfl) J
  · refine Q1 (Qz (Qw (Qw (Qq fun K hK => ?_)))); refine Qx J J J (Qx J J J (Qk igtr J J J J (Qj (hK _ _ (Qz ?_))))); clear hK K; refine Q2 J (fun h2 => ?_) (fun h2 => ?_)
    · refine Qw (Qq fun K hK => ?_); refine Qv J J J (Qj (hK _ _ (Qz (Q0 (QY ?_))))); clear hK K; refine QK [_] rfl (Qu J QQ) (by rw [Xi, if_neg h, if_pos h2]; rfl) J
    · refine Q1 (Qz (Qw (Qq fun K hK => ?_))); refine Qv J J J (Qj (hK _ _ (Qz (Q0 ?_)))); clear hK K; refine QK [_] rfl (Qu J QQ) (by rw [Xi, if_neg h, if_neg h2]; rfl) J
theorem gorOrder : InGo Tryz.prog 171 := InGo.of Tryz.func171 (by kernel_rfl) (by kernel_rfl)
theorem rTrim_ok (xs : List Int) (hl : xs.length < 4611686018427387904) : Ok Tryz.prog 136 [intsC xs] (intsC (trimL xs)) := by
  refine Ok.enter Tryz.func136 J _ Tryz.ntmps136 J ?_
  intro S w; refine Qw (Qq fun K hK => ?_); refine Qv J J J (Qj (hK _ _ (Qz (Qw (Q4 ?_))))); clear hK K
  refine Xj (α := List Int) (fun ys => trimL ys = trimL xs ∧ ys.length ≤ xs.length) (fun ys => [(0, .ct (intsC ys))]) (fun _ => []) (fun ys => ys.length) xs ⟨rfl, Nat.le_refl _⟩ (Entails.sub ⟨rfl, trivial⟩) ?_
  intro ys ⟨hy, hle⟩; refine Qw (Qw (Qq fun K hK => ?_)); refine Qx J J J (Qd J J sNat.und (List.length_map ..) J (Qk igtr J J J J (Qx J J J (Q6 6 J (fun h => ?_) (fun h => ?_)))))
  · have e1 : ((ys.length : Int) - 1).toNat = ys.length - 1 := by omega
    refine Qx J J J (Qx J J J (Qd J J sNat.und (List.length_map ..) J (Qk (isub (by omega) (by omega)) J J J J ?_)))
    refine Ql J J J sNat (by omega) (X3 (by omega) (by omega)) J ?_
    refine XQ J J J lInt J (Qk ieql J J J J (QZ J J J J (Qj (hK _ _ (Qz ?_))))); clear hK K; refine Q2 J (fun h2 => ?_) (fun h2 => ?_)
    · rw [e1] at h2; refine Q1 (Qz (Q4 (Qq fun K hK => ?_))); refine Qx J J J (Qx J J J (Qd J J sNat.und (List.length_map ..) J (Qk (isub (by omega) (by omega)) J J J J ?_)))
      refine Ops.cutHi J J J sNat (by omega) (by simp) J ?_
      rw [← List.map_take]; refine Qv J J J (Qj (hK _ _ (Qb (Q3 ?_)))); clear hK K; refine Q9 (ys.take ((ys.length : Int) - 1).toNat) (by simp; omega) ⟨?_, by simp; omega⟩ (Entails.sub ⟨rfl, trivial⟩); rw [e1, ← hy]; exact trim_last (by omega) h2
    · rw [e1] at h2; refine Qp (Qz (Qw (Qq fun K hK => ?_))); refine Qx J J J (Qv J J J (Qj (hK _ _ (Qz (Q0 ?_))))); clear hK K; refine QK [_] rfl (Qu J QQ) (by rw [← hy, trim_done (fun _ => h2)]; rfl) J
  · refine Qy J J J (Qy J J J (Qy J J J (Qy J J J (Qy J J J (Qy J J J (Qy J J J (QU J J J J (Qj (hK _ _ (Qz (Xv J (Qp (Qz (Qw ?_)))))))))))))); clear hK K; refine Qq (fun K hK => ?_); refine Qx J J J (Qv J J J (Qj (hK _ _ (Qz (Q0 ?_))))); clear hK K; refine QK [_] rfl (Qu J QQ) (by rw [← hy, trim_done (fun h3 => absurd h3 (by omega))]; rfl) J
theorem gorTrim : InGo Tryz.prog 136 := InGo.of Tryz.func136 (by kernel_rfl) (by kernel_rfl)
set_option maxHeartbeats 2000000 in
theorem rCompare_ok (a b : Nat) (ha : (limbs a).length < 4611686018427387904) (hb : (limbs b).length < 4611686018427387904) : Ok Tryz.prog 133 [natC a, natC b] (intC (cmpI a b)) := by
  refine Ok.enter Tryz.func133 J _ Tryz.ntmps133 J ?_
  intro S w; refine Qw (Qq fun K hK => ?_); refine Qv J J J (Qj (hK _ _ (Qz (Qw (Qw ?_))))); clear hK K; refine Qq (fun K hK => ?_); refine Qx J J J (Qd J J sNat.und (List.length_map ..) J (Qx J J J (Qd J J sNat.und (List.length_map ..) J (Qk ineq J J J J (Qj (hK _ _ (Qz ?_))))))); clear hK K; refine Q2 J (fun h => ?_) (fun h => ?_)
  · have e : cmpI ((limbs a).length : Int) ((limbs b).length : Int) = cmpI (a : Int) (b : Int) := by
      rcases Nat.lt_trichotomy (limbs a).length (limbs b).length with h1 | h1 | h1
      · have := lt_of_len h1; rw [Xi, Xi, if_pos (by omega), if_pos (by omega)]
      · omega
      · have := lt_of_len h1; rw [Xi, Xi, if_neg (by omega), if_pos (by omega), if_neg (by omega), if_pos (by omega)]
    refine Qw (Qq fun K hK => ?_); refine Qx J J J (Qd J J sNat.und (List.length_map ..) J (Qx J J J (Qd J J sNat.und (List.length_map ..) J (QW gorOrder (rOrder_ok _ _) J J J J (Qv J J J (Qj (hK _ _ (Qz (Q0 (QY ?_)))))))))); clear hK K; refine QK [_] rfl (Qu J QQ) (by rw [← e]; rfl) J
  · have hl : (limbs a).length = (limbs b).length := by omega
    clear h; refine Q1 (Qz (Qw (Qw (Qq fun K hK => ?_)))); refine Qx J J J (Qd J J sNat.und (List.length_map ..) J (Qk (isub (by omega) (by omega)) J J J J ?_)); refine Qv J J J (Qj (hK _ _ (Qz (Q4 ?_)))); clear hK K
    refine Xj (α := Nat) (fun k => k ≤ (limbs a).length ∧ pre (limbs a) k - pre (limbs b) k = (a : Int) - b)
      (fun k => [(0, .ct (natC a)), (1, .ct (natC b)), (5, .ct (intC ((k : Int) - 1)))]) (fun _ => []) (fun k => k) (limbs a).length ⟨Nat.le_refl _, ?_⟩ (by exact QX J ⟨rfl, rfl, rfl, trivial⟩) ?_
    · have e1 := val_eq_pre a; have e2 := val_eq_pre b; rw [← hl] at e2; rw [e1, e2]
    intro k ⟨hk, hv⟩; dsimp only; refine Qw (Qw (Qq fun K hK => ?_)); refine Qx J J J (Qk igeq J J J J (Qj (hK _ _ (Qz ?_)))); clear hK K; refine Q2 J (fun h => ?_) (fun h => ?_)
    · obtain ⟨q, rfl⟩ : ∃ q, k = q + 1 := ⟨k - 1, by omega⟩
      have e1 : (((q + 1 : Nat) : Int) - 1) = (q : Int) := by omega
      have e2 : (q : Int).toNat = q := Int.toNat_natCast q; rw [e1]; refine Q1 (Qz (Qw (Q4 (Qw ?_)))); refine Xu mixed 9 (.p 0 (.p 1 (.p 2 (.p 4 (.p 5 (.p 6 (.f 3 (.f 7 (.p 8 .done))))))))) (by kernel_rfl) (fun K hK => ?_); refine Qx J J J (Qx J J J (Ql J J J sNat (by omega) (X3 (by omega) (by omega)) J ?_)); refine Qx J J J (Qx J J J (Ql J J J sNat (by omega) (X3 (by omega) (by omega)) J ?_)); refine XQ J J J lInt J (XQ J J J lInt J (Qk ineq J J J J (Qj (hK _ _ (Qz ?_))))); clear hK K; refine Q2 J (fun h2 => ?_) (fun h2 => ?_)
      · rw [e2] at h2
        have e : cmpI ((limbs a).getD q 0) ((limbs b).getD q 0) = cmpI (a : Int) (b : Int) := by
          rcases Int.lt_or_gt_of_ne h2 with h3 | h3
          · have := pre_decides (Xh a) (Xh b) h3; rw [Xi, Xi, if_pos h3, if_pos (by omega)]
          · have := pre_decides (Xh b) (Xh a) h3; rw [Xi, Xi, if_neg (by omega), if_pos h3, if_neg (by omega), if_pos (by omega)]
        refine Qw (Xu mixed 10 (.p 0 (.p 1 (.p 2 (.p 4 (.p 5 (.p 6 (.f 3 (.f 7 (.m 8 (.p 9 .done)))))))))) (by kernel_rfl) (fun K hK => ?_)); refine Qx J J J (Qx J J J (Ql J J J sNat (by omega) (X3 (by omega) (by omega)) J ?_)); refine Qx J J J (Qx J J J (Ql J J J sNat (by omega) (X3 (by omega) (by omega)) J ?_)); refine XQ J J J lInt J (XQ J J J lInt J (QW gorOrder (rOrder_ok _ _) J J J J ?_)); rw [e2]; refine Qv J J J (Qj (hK _ _ (Qz (Q0 (Q8 (QY (QY (Q8 (QY ?_))))))))); clear hK K; refine QK [_] rfl (Qu J QQ) (by rw [← e]; rfl) J
      · rw [e2] at h2; refine Q1 (Qz (Qq fun K hK => ?_)); refine Qx J J J (Qk (isub (by omega) (by omega)) J J J J ?_); refine Qv J J J (Qj (hK _ _ (Q3 ?_))); clear hK K; refine Q9 q (by omega) ⟨by omega, ?_⟩ (by exact QX J ⟨rfl, rfl, rfl, trivial⟩); rw [Xs, Xs] at hv; have : (limbs a).getD q 0 = (limbs b).getD q 0 := Classical.not_not.1 h2; rw [this] at hv; omega
    · have hk0 : k = 0 := by omega
      subst hk0; rw [Z8, Z8] at hv; refine Qp (Qz (Qw (Qq fun K hK => ?_))); refine Qv J J J (Qj (hK _ _ (Qz (Q0 ?_)))); clear hK K; refine QK [_] rfl (Qu J QQ) (by rw [Xi, if_neg (by omega), if_neg (by omega)]; rfl) J
theorem gorCompare : InGo Tryz.prog 133 := InGo.of Tryz.func133 (by kernel_rfl) (by kernel_rfl)
theorem YK (xs : List Int) (i : Nat) : Ok Tryz.prog 170 [intsC xs, intC i] (intC (xs.getD i 0)) := by
  refine Ok.enter Tryz.func170 J _ Tryz.ntmps170 J ?_
  intro S w; refine Qw (Qq fun K hK => ?_); refine Qv J J J (Qj (hK _ _ (Qz (Qw (Qw ?_))))); clear hK K; refine Qq (fun K hK => ?_); refine Qx J J J (Qx J J J (Qd J J sNat.und (List.length_map ..) J (Qk ilss J J J J (Qj (hK _ _ (Qz ?_)))))); clear hK K; refine Q2 J (fun h => ?_) (fun h => ?_)
  · have e2 : (i : Int).toNat = i := Int.toNat_natCast i; refine Qw (Qq fun K hK => ?_); refine Qx J J J (Qx J J J (Ql J J J sNat (by omega) (X3 (by omega) (by omega)) J ?_)); refine XQ J J J lInt J (Qv J J J (Qj (hK _ _ (Qz (Q0 (QY ?_)))))); clear hK K; rw [e2]; skip; refine QK [_] rfl (Qu J QQ) J J
  · refine Q1 (Qz (Qw (Qq fun K hK => ?_))); refine Qv J J J (Qj (hK _ _ (Qz (Q0 ?_)))); clear hK K; refine QK [_] rfl (Qu J QQ) (by rw [List.getD_eq_getElem?_getD, List.getElem?_eq_none (by omega)]; rfl) J
theorem gorlimb : InGo Tryz.prog 170 := InGo.of Tryz.func170 (by kernel_rfl) (by kernel_rfl)
theorem limbs_top {n : Nat} (h : 0 < (limbs n).length) : (limbs n).getD ((limbs n).length - 1) 0 ≠ 0 := fun h0 => by
  have h1 := trim_last h h0
  rw [trim_of_limbs] at h1
  have h2 := trim_len ((limbs n).take ((limbs n).length - 1))
  rw [h1] at h2
  simp at h2; omega
theorem getD_past {xs : List Int} {i : Nat} (h : xs.length ≤ i) : xs.getD i 0 = 0 := by
  rw [List.getD_eq_getElem?_getD, List.getElem?_eq_none (by omega)]; rfl
set_option maxHeartbeats 2000000 in
theorem rPlus_ok (a b : Nat) (ha : (limbs a).length ≤ 1000000) (hb : (limbs b).length ≤ 1000000) : Ok Tryz.prog 131 [natC a, natC b] (natC (a + b)) := by
  refine Ok.enter Tryz.func131 J _ Tryz.ntmps131 J ?_
  intro S w; refine Qw (Qq fun K hK => ?_); refine Qv J J J (Qj (hK _ _ (Qz (Qw ?_)))); clear hK K; refine Qq (fun K hK => ?_); refine Qv J J J (Qj (hK _ _ (Qz (Qw ?_)))); clear hK K; refine Qq (fun K hK => ?_); refine Qv J J J (Qj (hK _ _ (Qz (Qw (Qw ?_))))); clear hK K; refine Qq (fun K hK => ?_); refine Qv J J J (Qj (hK _ _ (Qz (Q4 ?_)))); clear hK K
  refine Xe 5 0 3 1 J J J ?_
  skip
  refine Xj (α := Nat × List Int × Int) (fun s => s.2.1.length = s.1 ∧ OKL s.2.1 ∧ 0 ≤ s.2.2 ∧ s.2.2 ≤ 1 ∧ (s.1 ≤ max (limbs a).length (limbs b).length ∨ s.2.2 = 0) ∧ s.1 ≤ max (limbs a).length (limbs b).length + 1 ∧ val s.2.1 + s.2.2 * BB ^ s.1 = pre (limbs a) s.1 + pre (limbs b) s.1 ∧
      (max (limbs a).length (limbs b).length ≤ s.1 → s.2.2 = 0 → trimL s.2.1 = s.2.1))
    (fun s => [(0, .ct (natC a)), (1, .ct (natC b)), (5, .own 0), (6, .ct (intC s.2.2)), (7, .ct (intC s.1))]) (fun s => [(0, .row 3 1 (ints s.2.1))])
    (fun s => 2 * (max (limbs a).length (limbs b).length - s.1) + s.2.2.toNat) (0, [], 0) ⟨rfl, OKL.nil, by decide, by decide, .inr J, Nat.zero_le _, by simp [val, Z8], fun _ _ => rfl⟩ (by exact QX J ⟨rfl, rfl, rfl, rfl, rfl, trivial⟩) ?_
  rintro ⟨i, zs, c⟩ ⟨hz, hok, hc0, hc1, hor, hi, hv, ht⟩
  dsimp only at hz hok hc0 hc1 hor hi hv ht ⊢; have b1 := (Xh a).get i; have b2 := (Xh b).get i; have t1 := limbs_top (n := a); have t2 := limbs_top (n := b); have p1 := getD_past (xs := limbs a) (i := i); have p2 := getD_past (xs := limbs b) (i := i); simp only [BB] at b1 b2
  have step : ((i : Int) < (limbs a).length ∨ (i : Int) < (limbs b).length ∨ 0 < c) →
      (2 * (max (limbs a).length (limbs b).length - (i + 1)) + ((((limbs a).getD i 0 + (limbs b).getD i 0 + c) / 1073741824).toNat) < 2 * (max (limbs a).length (limbs b).length - i) + c.toNat) ∧
      ((zs ++ [((limbs a).getD i 0 + (limbs b).getD i 0 + c) % 1073741824]).length = i + 1 ∧ OKL (zs ++ [((limbs a).getD i 0 + (limbs b).getD i 0 + c) % 1073741824]) ∧ 0 ≤ ((limbs a).getD i 0 + (limbs b).getD i 0 + c) / 1073741824 ∧ ((limbs a).getD i 0 + (limbs b).getD i 0 + c) / 1073741824 ≤ 1 ∧ (i + 1 ≤ max (limbs a).length (limbs b).length ∨ ((limbs a).getD i 0 + (limbs b).getD i 0 + c) / 1073741824 = 0) ∧ i + 1 ≤ max (limbs a).length (limbs b).length + 1 ∧ val (zs ++ [((limbs a).getD i 0 + (limbs b).getD i 0 + c) % 1073741824]) + ((limbs a).getD i 0 + (limbs b).getD i 0 + c) / 1073741824 * BB ^ (i + 1) = pre (limbs a) (i + 1) + pre (limbs b) (i + 1) ∧
      (max (limbs a).length (limbs b).length ≤ i + 1 → ((limbs a).getD i 0 + (limbs b).getD i 0 + c) / 1073741824 = 0 → trimL (zs ++ [((limbs a).getD i 0 + (limbs b).getD i 0 + c) % 1073741824]) = zs ++ [((limbs a).getD i 0 + (limbs b).getD i 0 + c) % 1073741824])) := by
    intro hgo; refine ⟨by omega, by simp [hz], hok.append (OKL.cons (by simp only [BB]; omega) OKL.nil), by omega, by omega, by omega, by omega, ?_, ?_⟩
    · rw [val_append, hz, Xs, Xs]; have e := Int.mul_ediv_add_emod ((limbs a).getD i 0 + (limbs b).getD i 0 + c) 1073741824; clear t1 t2 p1 p2 ht hor hgo; simp only [val, BB] at *; generalize ((limbs a).getD i 0 + (limbs b).getD i 0 + c) / 1073741824 = q at *; generalize ((limbs a).getD i 0 + (limbs b).getD i 0 + c) % 1073741824 = m at *
      grind
    · intro hm hcz
      refine trim_id ?_
      have hx : (limbs a).getD i 0 + (limbs b).getD i 0 + c ≠ 0 := by
        rcases hgo with hg | hg | hg
        · rcases Nat.lt_or_ge (i + 1) (limbs a).length with h5 | h5
          · omega
          · have e5 : (limbs a).length - 1 = i := by omega
            rw [e5] at t1; have := t1 (by omega); omega
        · rcases Nat.lt_or_ge (i + 1) (limbs b).length with h5 | h5
          · omega
          · have e5 : (limbs b).length - 1 = i := by omega
            rw [e5] at t2; have := t2 (by omega); omega
        · omega
      omega
  have fin : ¬ ((i : Int) < (limbs a).length ∨ (i : Int) < (limbs b).length ∨ 0 < c) → natC (a + b) = intsC zs := by
    intro hgo
    have hc : c = 0 := by omega
    have h1 := ht (by omega) hc; rw [hc, Int.zero_mul, Zr (by omega), Zr (by omega), ZW, ZW] at hv; rw [show intsC zs = intsC (trimL zs) by rw [h1], Z7 hok, show (val zs).toNat = a + b by omega]
  have e2 : (i : Int).toNat = i := Int.toNat_natCast i; clear ht hor t1 t2 p1 p2; refine Qw (Qw (Qq fun K hK => ?_)); refine Qx J J J (Qx J J J (Qd J J sNat.und (List.length_map ..) J (Qk ilss J J J J (Qx J J J (Q6 13 J (fun g1 => ?_) (fun g1 => ?_))))))
  · have st := step (.inl g1); clear step fin; refine Qy J J J (Qy J J J (Qy J J J (Qy J J J (QZ J J J J (Qx J J J (Qy J J J (Qy J J J (QZ J J J J (Qj (hK _ _ (Qz (Qo J (Q1 (Qz (Qw (Q4 (Qw ?_))))))))))))))))); clear hK K; refine Qq (fun K hK => ?_); refine Qx J J J (Qx J J J (QW gorlimb (YK (limbs a) i) J J J J (Qx J J J (Qx J J J (QW gorlimb (YK (limbs b) i) J J J J (Qk (iadd (by omega) (by omega)) J J J J ?_)))))); refine Qx J J J (Qk (iadd (by omega) (by omega)) J J J J ?_); refine Qv J J J (Qj (hK _ _ (Qz (Qw ?_)))); clear hK K; refine Qq (fun K hK => ?_); refine Qx J J J (Qx J J J (Qk (irem (by omega) (by omega)) J J J J ?_)); refine Zq J J sNat J J J (Qt zs.length (ints (zs ++ [((limbs a).getD i 0 + (limbs b).getD i 0 + c) % 1073741824])) J J J J sNat (by simp [ints]) J (by omega) (by omega) (by simp [ints]) J ?_); refine Qv J J J (Qj (hK _ _ (Qz ?_))); clear hK K; refine Qq (fun K hK => ?_); refine Qx J J J (Qk (iquo (by omega) (by omega) (by omega)) J J J J ?_); refine Qv J J J (Qj (hK _ _ (Qz ?_))); clear hK K; refine Qq (fun K hK => ?_); refine Qx J J J (Qk (iadd (by omega) (by omega)) J J J J ?_); refine Qv J J J (Qj (hK _ _ (Q3 ?_)))
    clear hK K; refine Q9 (i + 1, zs ++ [((limbs a).getD i 0 + (limbs b).getD i 0 + c) % 1073741824], ((limbs a).getD i 0 + (limbs b).getD i 0 + c) / 1073741824) st.1 st.2 (by exact QX J ⟨rfl, rfl, rfl, rfl, by simp only [Int.natCast_add]; rfl, trivial⟩)
  · refine Qx J J J (Qx J J J (Qd J J sNat.und (List.length_map ..) J (Qk ilss J J J J (QU J J J J (Qx J J J (Q6 19 J (fun g2 => ?_) (fun g2 => ?_)))))))
    · have st := step (.inr (.inl g2)); clear step fin; refine Qy J J J (Qy J J J (QZ J J J J (Qj (hK _ _ (Qz (Qo J (Q1 (Qz (Qw (Q4 (Qw ?_))))))))))); clear hK K; refine Qq (fun K hK => ?_); refine Qx J J J (Qx J J J (QW gorlimb (YK (limbs a) i) J J J J (Qx J J J (Qx J J J (QW gorlimb (YK (limbs b) i) J J J J (Qk (iadd (by omega) (by omega)) J J J J ?_)))))); refine Qx J J J (Qk (iadd (by omega) (by omega)) J J J J ?_); refine Qv J J J (Qj (hK _ _ (Qz (Qw ?_)))); clear hK K; refine Qq (fun K hK => ?_); refine Qx J J J (Qx J J J (Qk (irem (by omega) (by omega)) J J J J ?_)); refine Zq J J sNat J J J (Qt zs.length (ints (zs ++ [((limbs a).getD i 0 + (limbs b).getD i 0 + c) % 1073741824])) J J J J sNat (by simp [ints]) J (by omega) (by omega) (by simp [ints]) J ?_); refine Qv J J J (Qj (hK _ _ (Qz ?_))); clear hK K; refine Qq (fun K hK => ?_); refine Qx J J J (Qk (iquo (by omega) (by omega) (by omega)) J J J J ?_); refine Qv J J J (Qj (hK _ _ (Qz ?_))); clear hK K; refine Qq (fun K hK => ?_); refine Qx J J J (Qk (iadd (by omega) (by omega)) J J J J ?_); refine Qv J J J (Qj (hK _ _ (Q3 ?_))); clear hK K
      refine Q9 (i + 1, zs ++ [((limbs a).getD i 0 + (limbs b).getD i 0 + c) % 1073741824], ((limbs a).getD i 0 + (limbs b).getD i 0 + c) / 1073741824) st.1 st.2 (by exact QX J ⟨rfl, rfl, rfl, rfl, by simp only [Int.natCast_add]; rfl, trivial⟩)
    · refine Qx J J J (Qk igtr J J J J (QU J J J J (Qj (hK _ _ (Qz ?_))))); clear hK K; refine Q2 J (fun g3 => ?_) (fun g3 => ?_)
      · have st := step (.inr (.inr g3)); clear step fin; refine Q1 (Qz (Qw (Q4 (Qw (Qq fun K hK => ?_))))); refine Qx J J J (Qx J J J (QW gorlimb (YK (limbs a) i) J J J J (Qx J J J (Qx J J J (QW gorlimb (YK (limbs b) i) J J J J (Qk (iadd (by omega) (by omega)) J J J J ?_)))))); refine Qx J J J (Qk (iadd (by omega) (by omega)) J J J J ?_); refine Qv J J J (Qj (hK _ _ (Qz (Qw ?_)))); clear hK K; refine Qq (fun K hK => ?_); refine Qx J J J (Qx J J J (Qk (irem (by omega) (by omega)) J J J J ?_)); refine Zq J J sNat J J J (Qt zs.length (ints (zs ++ [((limbs a).getD i 0 + (limbs b).getD i 0 + c) % 1073741824])) J J J J sNat (by simp [ints]) J (by omega) (by omega) (by simp [ints]) J ?_); refine Qv J J J (Qj (hK _ _ (Qz ?_))); clear hK K; refine Qq (fun K hK => ?_); refine Qx J J J (Qk (iquo (by omega) (by omega) (by omega)) J J J J ?_); refine Qv J J J (Qj (hK _ _ (Qz ?_))); clear hK K; refine Qq (fun K hK => ?_); refine Qx J J J (Qk (iadd (by omega) (by omega)) J J J J ?_); refine Qv J J J (Qj (hK _ _ (Q3 ?_))); clear hK K
        refine Q9 (i + 1, zs ++ [((limbs a).getD i 0 + (limbs b).getD i 0 + c) % 1073741824], ((limbs a).getD i 0 + (limbs b).getD i 0 + c) / 1073741824) st.1 st.2 (by exact QX J ⟨rfl, rfl, rfl, rfl, by simp only [Int.natCast_add]; rfl, trivial⟩)
      · have fe := fin (by omega); refine St.freeze 0 _ J (Zw _ _) XZ (Qp (Qz (Qw (Qq fun K hK => ?_)))); refine Qx J J J (Qv J J J (Qj (hK _ _ (Qz (Q0 ?_))))); clear hK K; refine QK [_] rfl (Qu J QQ) (by rw [fe]; rfl) J
theorem gorPlus : InGo Tryz.prog 131 := InGo.of Tryz.func131 (by kernel_rfl) (by kernel_rfl)
theorem val_sub_done {a b : Nat} {zs : List Int} {c : Int} (hok : OKL zs) (hzl : zs.length = (limbs a).length) (hb : b ≤ a) (hc0 : 0 ≤ c) (hc1 : c ≤ 1)
    (hv : val zs - c * BB ^ (limbs a).length = pre (limbs a) (limbs a).length - pre (limbs b) (limbs a).length) : trimL zs = limbs (a - b) := by
  have hlb := Xa hb; rw [Z7 hok]; rw [Zr (Nat.le_refl _), Zr hlb, ZW, ZW] at hv; have hp : 0 < BB ^ (limbs a).length := Int.pow_pos (by decide); have h1 := pre_bd hok (limbs a).length; rw [Zr (by omega)] at h1
  have hc : c = 0 := by
    rcases Int.lt_or_le 0 c with hc | hc
    · have : c = 1 := by omega
      subst this; rw [Int.one_mul] at hv; omega
    · omega
  subst hc; rw [Int.zero_mul] at hv
  congr 1; omega
theorem less_step {v c P A B x y d c' K : Int} (h : v - c * P = A - B) (e : x - y - c = d - c' * K) : v + P * d - c' * (P * K) = (A + x * P) - (B + y * P) := by
  have h2 : P * (x - y - c) = P * (d - c' * K) := by rw [e]
  grind
set_option maxHeartbeats 2000000 in
theorem rLess_ok (a b : Nat) (hb : b ≤ a) (hx : (limbs a).length ≤ 1000000) : Ok Tryz.prog 134 [natC a, natC b] (natC (a - b)) := by
  refine Ok.enter Tryz.func134 J _ Tryz.ntmps134 J ?_
  intro S w; refine Qw (Qq fun K hK => ?_); refine Qv J J J (Qj (hK _ _ (Qz (Qw ?_)))); clear hK K; refine Qq (fun K hK => ?_); refine Qv J J J (Qj (hK _ _ (Qz (Qw ?_)))); clear hK K; refine Qq (fun K hK => ?_); refine Qv J J J (Qj (hK _ _ (Qz (Qw (Qw ?_))))); clear hK K; refine Qq (fun K hK => ?_); refine Qv J J J (Qj (hK _ _ (Qz (Q4 ?_)))); clear hK K
  refine Xe 5 0 3 1 J J J ?_
  skip
  refine Xj (α := Nat × List Int × Int) (fun s => s.1 ≤ (limbs a).length ∧ s.2.1.length = s.1 ∧ OKL s.2.1 ∧ 0 ≤ s.2.2 ∧ s.2.2 ≤ 1 ∧ val s.2.1 - s.2.2 * BB ^ s.1 = pre (limbs a) s.1 - pre (limbs b) s.1)
    (fun s => [(0, .ct (natC a)), (1, .ct (natC b)), (5, .own 0), (6, .ct (intC s.2.2)), (7, .ct (intC s.1))])
    (fun s => [(0, .row 3 1 (ints s.2.1))])
    (fun s => (limbs a).length - s.1) (0, [], 0) ⟨Nat.zero_le _, rfl, OKL.nil, by decide, by decide, by simp [val, Z8]⟩ (by exact QX J ⟨rfl, rfl, rfl, rfl, rfl, trivial⟩) ?_
  rintro ⟨i, zs, c⟩ ⟨hi, hz, hok, hc0, hc1, hv⟩
  dsimp only at hi hz hok hc0 hc1 hv ⊢; refine Qw (Qw (Qq fun K hK => ?_)); refine Qx J J J (Qx J J J (Qd J J sNat.und (List.length_map ..) J (Qk ilss J J J J (Qj (hK _ _ (Qz ?_)))))); clear hK K; refine Q2 J (fun h => ?_) (fun h => ?_)
  · have b1 := (Xh a).get i; have b2 := (Xh b).get i; simp only [BB] at b1 b2; have e2 : (i : Int).toNat = i := Int.toNat_natCast i; refine Q1 (Qz (Qw (Q4 (Qw ?_)))); refine Xu mixed 11 (.p 0 (.p 1 (.p 2 (.p 4 (.p 5 (.p 8 (.f 3 (.m 6 (.p 7 (.p 9 (.p 10 .done))))))))))) (by kernel_rfl) (fun K hK => ?_); refine Qx J J J (Qx J J J (Ql J J J sNat (by omega) (X3 (by omega) (by omega)) J ?_)); refine Qx J J J (Qx J J J (Qx J J J (XQ J J J lInt J ?_))); rw [e2]; skip; refine QW gorlimb (YK (limbs b) i) J J J J (Qk (isub (by omega) (by omega)) J J J J ?_)
    refine Qk (isub (by omega) (by omega)) J J J J ?_
    refine Qv J J J (Qj (hK _ _ (Qz (Qw ?_)))); clear hK K; refine Qq (fun K hK => ?_); refine Qv J J J (Qj (hK _ _ (Qz (Qw (Qw ?_))))); clear hK K; refine Qq (fun K hK => ?_); refine Qx J J J (Qk ilss J J J J (Qj (hK _ _ (Qz ?_)))); clear hK K; refine Q2 J (fun h2 => ?_) (fun h2 => ?_)
    · refine Qw (Qq fun K hK => ?_); refine Qx J J J (Qk (iadd (by omega) (by omega)) J J J J ?_); refine Qv J J J (Qj (hK _ _ (Qz ?_))); clear hK K; refine Qq (fun K hK => ?_); refine Qv J J J (Qj (hK _ _ (Qz ?_))); clear hK K; refine Qq (fun K hK => ?_); refine Qx J J J (Qx J J J (Zq J J sNat J J J (Qt zs.length (ints (zs ++ [(limbs a).getD i 0 - (limbs b).getD i 0 - c + 1073741824])) J J J J sNat (by simp [ints]) J (by omega) (by omega) (by simp [ints]) J ?_))); refine Qv J J J (Qj (hK _ _ (Qz ?_))); clear hK K; refine Qq (fun K hK => ?_); refine Qx J J J (Qk (iadd (by omega) (by omega)) J J J J ?_); refine Qv J J J (Qj (hK _ _ (Q3 ?_))); clear hK K; refine Q9 (i + 1, zs ++ [(limbs a).getD i 0 - (limbs b).getD i 0 - c + 1073741824], 1) (by dsimp only; omega) ⟨by dsimp only; omega, by simp [hz], ?_, by show (0 : Int) ≤ 1; decide, by show (1 : Int) ≤ 1; decide, ?_⟩ (by exact QX J ⟨rfl, rfl, rfl, rfl, by simp only [Int.natCast_add]; rfl, trivial⟩)
      all_goals dsimp only
      · exact hok.append (OKL.cons (by simp only [BB]; omega) OKL.nil)
      · rw [val_append, hz, Xs, Xs, Int.pow_succ]; simp only [val, Int.mul_zero, Int.add_zero]; exact less_step hv (by simp only [BB]; omega)
    · refine Q1 (Qz (Qq fun K hK => ?_)); refine Qx J J J (Qx J J J (Zq J J sNat J J J (Qt zs.length (ints (zs ++ [(limbs a).getD i 0 - (limbs b).getD i 0 - c])) J J J J sNat (by simp [ints]) J (by omega) (by omega) (by simp [ints]) J ?_))); refine Qv J J J (Qj (hK _ _ (Qz ?_))); clear hK K; refine Qq (fun K hK => ?_); refine Qx J J J (Qk (iadd (by omega) (by omega)) J J J J ?_); refine Qv J J J (Qj (hK _ _ (Q3 ?_))); clear hK K; refine Q9 (i + 1, zs ++ [(limbs a).getD i 0 - (limbs b).getD i 0 - c], 0) (by dsimp only; omega) ⟨by dsimp only; omega, by simp [hz], ?_, by show (0 : Int) ≤ 0; decide, by show (0 : Int) ≤ 1; decide, ?_⟩ (by exact QX J ⟨rfl, rfl, rfl, rfl, by simp only [Int.natCast_add]; rfl, trivial⟩)
      all_goals dsimp only
      · exact hok.append (OKL.cons (by simp only [BB]; omega) OKL.nil)
      · rw [val_append, hz, Xs, Xs, Int.pow_succ]; simp only [val, Int.mul_zero, Int.add_zero]; exact less_step hv (by simp only [BB]; omega)
  · have hi' : i = (limbs a).length := by omega
    subst hi'; have e4 := val_sub_done hok hz hb hc0 hc1 hv; refine St.freeze 0 _ J (Zw _ _) XZ (Qp (Qz (Qw (Qq fun K hK => ?_)))); refine Qx J J J (QW gorTrim (rTrim_ok zs (by omega)) J J J J ?_); rw [e4]; refine Qv J J J (Qj (hK _ _ (Qz (Q0 ?_)))); clear hK K; refine QK [_] rfl (Qu J QQ) J J
theorem gorLess : InGo Tryz.prog 134 := InGo.of Tryz.func134 (by kernel_rfl) (by kernel_rfl)
set_option maxHeartbeats 2000000 in
theorem rhalf_ok (a : Nat) (hl : (limbs a).length ≤ 1000000) : Ok Tryz.prog 132 [natC a] (natC (a / 2)) := by
  refine Ok.enter Tryz.func132 J _ Tryz.ntmps132 J ?_
  intro S w; refine Qw (Qq fun K hK => ?_); refine Qv J J J (Qj (hK _ _ (Qz (Qw ?_)))); clear hK K; refine Qq (fun K hK => ?_); refine Qx J J J (Qd J J sNat.und (List.length_map ..) J (Ops.make 0 (limbs a).length J J J J sNat (by omega) (by omega) J J J ?_)); rw [ints_made]; refine Qv J J J (Qj (hK _ _ (Qz (Qw ?_)))); clear hK K; refine Qq (fun K hK => ?_); refine Qv J J J (Qj (hK _ _ (Qz (Qw (Qw ?_))))); clear hK K; refine Qq (fun K hK => ?_); refine Qx J J J (Qd J J sNat.und (List.length_map ..) J (Qk (isub (by omega) (by omega)) J J J J ?_)); refine Qv J J J (Qj (hK _ _ (Qz (Q4 ?_)))); clear hK K
  refine Xj (α := Nat × List Int × Int) (fun s => s.1 ≤ (limbs a).length ∧ s.2.1.length = (limbs a).length ∧ OKL s.2.1 ∧ (∀ j, j < s.1 → s.2.1.getD j 0 = 0) ∧ 0 ≤ s.2.2 ∧ s.2.2 < 2 ∧ val s.2.1 * 2 + s.2.2 * BB ^ s.1 = val (limbs a) - pre (limbs a) s.1)
    (fun s => [(0, .ct (natC a)), (3, .own 0), (4, .ct (intC s.2.2)), (5, .ct (intC ((s.1 : Int) - 1)))])
    (fun s => [(0, .row 3 1 (ints s.2.1))]) (fun s => s.1) ((limbs a).length, List.replicate (limbs a).length 0, 0) ⟨Nat.le_refl _, by simp, OKL.zeros _, ?_, Int.le_refl _, by show (0 : Int) < 2; decide, ?_⟩ (by exact QX J ⟨rfl, rfl, rfl, rfl, trivial⟩) ?_
  · intro j _; simp [List.getD_eq_getElem?_getD, List.getElem?_replicate]; split <;> rfl
  · dsimp only; rw [val_zeros, Zr (Nat.le_refl _)]; simp
  rintro ⟨q, zs, rest⟩ ⟨hq, hzl, hok, hz, hr0, hr1, hv⟩
  dsimp only at hq hzl hok hz hr0 hr1 hv ⊢; refine Qw (Qw (Qq fun K hK => ?_)); refine Qx J J J (Qk igeq J J J J (Qj (hK _ _ (Qz ?_)))); clear hK K; refine Q2 J (fun h => ?_) (fun h => ?_)
  · obtain ⟨i, rfl⟩ : ∃ i, q = i + 1 := ⟨q - 1, by omega⟩
    have e1 : (((i + 1 : Nat) : Int) - 1) = (i : Int) := by omega
    have e2 : (i : Int).toNat = i := Int.toNat_natCast i
    have e3 : (i : Int).toNat * 1 = i := by omega
    have bx := (Xh a).get i; simp only [BB] at bx; rw [e1]; refine Q1 (Qz (Qw (Q4 (Qw (Qq fun K hK => ?_))))); refine Qx J J J (Qx J J J (Ql J J J sNat (by omega) (X3 (by omega) (by omega)) J ?_)); refine XQ J J J lInt J (Qx J J J (Qk (imul (by omega) (by omega)) J J J J ?_)); rw [e2]
    refine Qk (iadd (by omega) (by omega)) J J J J ?_
    refine Qv J J J (Qj (hK _ _ (Qz (Qw ?_)))); clear hK K; refine Qq (fun K hK => ?_); refine Qx J J J (Qx J J J (Qx J J J (Qk (iquo (by omega) (by omega) (by omega)) J J J J ?_))); rw [show (limbs a).getD i 0 + rest * 1073741824 = rest * 1073741824 + (limbs a).getD i 0 from Int.add_comm _ _]; skip
    refine Zv (limbs a).length J J J (by simp [ints]; omega) J sNat (by omega) (by omega) J ?_
    rw [e3]
    refine X6 J J J J J zInt (by simp [Ent.cs, ints]; omega) ?_
    simp only [Ent.setc, ints_set]; refine Qj (hK _ _ (Qz ?_)); clear hK K; refine Qq (fun K hK => ?_); refine Qx J J J (Qk (irem (by omega) (by omega)) J J J J ?_); refine Qv J J J (Qj (hK _ _ (Qz ?_))); clear hK K; refine Qq (fun K hK => ?_); refine Qx J J J (Qk (isub (by omega) (by omega)) J J J J ?_); refine Qv J J J (Qj (hK _ _ (Q3 ?_))); clear hK K; refine Q9 (i, zs.set i ((rest * 1073741824 + (limbs a).getD i 0) / 2), (rest * 1073741824 + (limbs a).getD i 0) % 2) (by dsimp only; omega) ⟨by dsimp only; omega, by simp [hzl], ?_, ?_, by dsimp only; omega, by dsimp only; omega, ?_⟩ (by exact QX J ⟨rfl, rfl, rfl, rfl, trivial⟩)
    all_goals dsimp only
    · exact hok.set _ (by simp only [BB]; omega)
    · intro j hj; rw [getD_set (by omega), if_neg (by omega)]; exact hz j (by omega)
    · rw [val_set (by omega), hz i (by omega), Int.sub_zero]; exact top_step hv
  · have hq0 : q = 0 := by omega
    subst hq0
    have e4 : val zs * 2 + rest = a := by rw [Z8, ZW] at hv; simpa using hv
    have e5 : (val zs).toNat = a / 2 := by omega
    refine St.freeze 0 _ J (Zw _ _) XZ (Qp (Qz (Qw (Qq fun K hK => ?_)))); refine Qx J J J (QW gorTrim (rTrim_ok zs (by omega)) J J J J ?_); rw [Z7 hok, e5]; refine Qv J J J (Qj (hK _ _ (Qz (Q0 ?_)))); clear hK K; refine QK [_] rfl (Qu J QQ) J J
theorem gorhalf : InGo Tryz.prog 132 := InGo.of Tryz.func132 (by kernel_rfl) (by kernel_rfl)
set_option maxHeartbeats 4000000 in
theorem rTimes_ok (a b : Nat) (hx : (limbs a).length + (limbs b).length ≤ 1000000) : Ok Tryz.prog 135 [natC a, natC b] (natC (a * b)) := by
  refine Ok.enter Tryz.func135 Y _ Tryz.ntmps135 Y ?_
  intro S w; refine Qw (Qq fun K hK => ?_); refine Qv Y Y Y (Qj (hK _ _ (Qz (Qw ?_)))); clear hK K; refine Qq (fun K hK => ?_); refine Qx Y Y Y (Qd Y Y sNat.und (List.length_map ..) Y (Qx Y Y Y (Qd Y Y sNat.und (List.length_map ..) Y (Qk (iadd (by omega) (by omega)) Y Y Y Y ?_))))
  refine Ops.make 0 ((limbs a).length + (limbs b).length) Y Y Y (by omega) sNat (by omega) (by omega) Y Y Y ?_
  rw [ints_made]; refine Qv Y Y Y (Qj (hK _ _ (Qz (Qw (Qw ?_))))); clear hK K; refine Qq (fun K hK => ?_); refine Qv Y Y Y (Qj (hK _ _ (Qz (Q4 ?_)))); clear hK K
  refine Xj (α := Nat × List Int) (fun s => s.1 ≤ (limbs a).length ∧ s.2.length = (limbs a).length + (limbs b).length ∧ OKL s.2 ∧ (∀ j, s.1 + (limbs b).length ≤ j → s.2.getD j 0 = 0) ∧ val s.2 = pre (limbs a) s.1 * b)
    (fun s => [(0, .ct (natC a)), (1, .ct (natC b)), (5, .own 0), (6, .ct (intC s.1))])
    (fun s => [(0, .row 3 1 (ints s.2))])
    (fun s => (limbs a).length - s.1) (0, List.replicate ((limbs a).length + (limbs b).length) 0) ⟨Nat.zero_le _, by simp, OKL.zeros _, ?_, ?_⟩ (by exact QX Y ⟨rfl, rfl, rfl, rfl, trivial⟩) ?_
  · intro j _; simp [List.getD_eq_getElem?_getD, List.getElem?_replicate]; split <;> rfl
  · rw [Z8, val_zeros]; simp
  rintro ⟨i, out⟩ ⟨hi, hlen, hok, hz, hv⟩
  dsimp only at hi hlen hok hz hv ⊢; refine Qw (Qw (Qq fun K hK => ?_)); refine Qx Y Y Y (Qx Y Y Y (Qd Y Y sNat.und (List.length_map ..) Y (Qk ilss Y Y Y Y (Qj (hK _ _ (Qz ?_)))))); clear hK K; refine Q2 Y (fun h => ?_) (fun h => ?_)
  · have bx := (Xh a).get i; have eix : (i : Int).toNat = i := Int.toNat_natCast i; refine Q1 (Qz (Qw (Q4 (Qw (Qq fun K hK => ?_))))); refine Qv Y Y Y (Qj (hK _ _ (Qz (Qw ?_)))); clear hK K; refine Qq (fun K hK => ?_); refine Qv Y Y Y (Qj (hK _ _ (Qz (Q4 ?_)))); clear hK K
    refine Xj (α := Nat × List Int × Int) (fun s => (s.1 ≤ (limbs b).length ∨ s.2.2 = 0) ∧ s.1 ≤ (limbs b).length + 1 ∧ s.2.1.length = (limbs a).length + (limbs b).length ∧ OKL s.2.1 ∧ (∀ j, i + (limbs b).length + 1 ≤ j → s.2.1.getD j 0 = 0) ∧ (s.1 ≤ (limbs b).length → s.2.1.getD (i + (limbs b).length) 0 = 0) ∧ 0 ≤ s.2.2 ∧ s.2.2 < BB ∧
        val s.2.1 + s.2.2 * BB ^ (i + s.1) = val out + (limbs a).getD i 0 * pre (limbs b) s.1 * BB ^ i)
      (fun s => [(0, .ct (natC a)), (1, .ct (natC b)), (5, .own 0), (6, .ct (intC i)), (7, .ct (intC s.2.2)), (8, .ct (intC s.1))])
      (fun s => [(0, .row 3 1 (ints s.2.1))])
      (fun s => (limbs b).length + 2 - s.1) (0, out, 0) ⟨.inr Y, Nat.zero_le _, hlen, hok, fun j hj => hz j (by omega), fun _ => hz _ (Nat.le_refl _), Int.le_refl _, by show (0 : Int) < BB; decide, by rw [Z8]; simp⟩ (by exact QX Y ⟨rfl, rfl, rfl, rfl, rfl, rfl, trivial⟩) ?_
    rintro ⟨q, zs, c⟩ ⟨hqc, hq, hzl, hzok, hzz, hzt, hc0, hc1, hzv⟩
    dsimp only at hqc hq hzl hzok hzz hzt hc0 hc1 hzv ⊢
    have by' := (Xh b).get q
    have bz := hzok.get (i + q)
    have bm := mul_bd bx by'
    have hpast := getD_past (xs := limbs b) (i := q); simp only [BB] at bz hc1 bx; have eq1 : (q : Int).toNat = q := Int.toNat_natCast q
    have eiq : ((i : Int) + q).toNat * 1 = i + q := by omega
    have step : q ≤ (limbs b).length →
        ((limbs b).length + 2 - (q + 1) < (limbs b).length + 2 - q) ∧ ((q + 1 ≤ (limbs b).length ∨ (zs.getD (i + q) 0 + (limbs a).getD i 0 * (limbs b).getD q 0 + c) / 1073741824 = 0) ∧ q + 1 ≤ (limbs b).length + 1 ∧ (zs.set (i + q) ((zs.getD (i + q) 0 + (limbs a).getD i 0 * (limbs b).getD q 0 + c) % 1073741824)).length = (limbs a).length + (limbs b).length ∧ OKL (zs.set (i + q) ((zs.getD (i + q) 0 + (limbs a).getD i 0 * (limbs b).getD q 0 + c) % 1073741824)) ∧ (∀ j, i + (limbs b).length + 1 ≤ j → (zs.set (i + q) ((zs.getD (i + q) 0 + (limbs a).getD i 0 * (limbs b).getD q 0 + c) % 1073741824)).getD j 0 = 0) ∧ (q + 1 ≤ (limbs b).length → (zs.set (i + q) ((zs.getD (i + q) 0 + (limbs a).getD i 0 * (limbs b).getD q 0 + c) % 1073741824)).getD (i + (limbs b).length) 0 = 0) ∧ 0 ≤ (zs.getD (i + q) 0 + (limbs a).getD i 0 * (limbs b).getD q 0 + c) / 1073741824 ∧ (zs.getD (i + q) 0 + (limbs a).getD i 0 * (limbs b).getD q 0 + c) / 1073741824 < BB ∧
        val (zs.set (i + q) ((zs.getD (i + q) 0 + (limbs a).getD i 0 * (limbs b).getD q 0 + c) % 1073741824)) + (zs.getD (i + q) 0 + (limbs a).getD i 0 * (limbs b).getD q 0 + c) / 1073741824 * BB ^ (i + (q + 1)) = val out + (limbs a).getD i 0 * pre (limbs b) (q + 1) * BB ^ i) := by
      intro hqb; refine ⟨by omega, ?_, by omega, by simp [hzl], hzok.set _ (by simp only [BB]; omega), ?_, ?_, by omega, by simp only [BB]; omega, ?_⟩
      · rcases Nat.lt_or_ge q (limbs b).length with h5 | h5
        · exact .inl h5
        · have h6 : q = (limbs b).length := by omega
          right; have := hzt hqb; rw [← h6] at this; rw [this, hpast h5, Int.mul_zero]; omega
      · intro j hj; rw [getD_set (by omega), if_neg (by omega)]; exact hzz j hj
      · intro h5; rw [getD_set (by omega), if_neg (by omega)]; exact hzt hqb
      · rw [val_set (by omega), Xs, show i + (q + 1) = (i + q) + 1 by omega, Int.pow_succ, Int.pow_add]; rw [Int.pow_add] at hzv; have e := Int.mul_ediv_add_emod (zs.getD (i + q) 0 + (limbs a).getD i 0 * (limbs b).getD q 0 + c) 1073741824
        clear hpast hzt hzz hqc bm by' bz hz
        simp only [BB] at *; generalize (zs.getD (i + q) 0 + (limbs a).getD i 0 * (limbs b).getD q 0 + c) / 1073741824 = Q at *; generalize (zs.getD (i + q) 0 + (limbs a).getD i 0 * (limbs b).getD q 0 + c) % 1073741824 = M at *; generalize (1073741824 : Int) ^ i = I at *; generalize (1073741824 : Int) ^ q = J at *; generalize zs.getD (i + q) 0 = z at *; generalize (limbs a).getD i 0 = x at *; generalize (limbs b).getD q 0 = y at *; generalize pre (limbs b) q = pb at *; generalize val zs = vz at *; generalize val out = vo at *
        grind
    have fin : ¬ ((q : Int) < (limbs b).length) → ¬ (0 < c) → (i + 1 ≤ (limbs a).length ∧ zs.length = (limbs a).length + (limbs b).length ∧ OKL zs ∧ (∀ j, i + 1 + (limbs b).length ≤ j → zs.getD j 0 = 0) ∧ val zs = pre (limbs a) (i + 1) * b) := by
      intro g1 g2; refine ⟨by omega, hzl, hzok, fun j hj => hzz j (by omega), ?_⟩
      have hc : c = 0 := by omega
      rw [hc, Int.zero_mul, Int.add_zero, Zr (xs := limbs b) (by omega), ZW, hv] at hzv; rw [hzv, Xs]; grind
    refine Qw (Qw (Qq fun K hK => ?_)); refine Qx Y Y Y (Qx Y Y Y (Qd Y Y sNat.und (List.length_map ..) Y (Qk ilss Y Y Y Y (Qx Y Y Y (Q6 26 Y (fun g1 => ?_) (fun g1 => ?_))))))
    · have st := step (by omega); clear step fin; refine Qy Y Y Y (Qy Y Y Y (QZ Y Y Y Y (Qj (hK _ _ (Qz (Qo Y (Q1 (Qz (Qw (Q4 (Qw ?_))))))))))); clear hK K; refine Xu mixed 18 (.p 0 (.p 1 (.p 2 (.p 3 (.p 4 (.p 6 (.p 7 (.p 8 (.p 10 (.p 11 (.p 15 (.f 5 (.f 9 (.m 12 (.p 13 (.p 14 (.p 16 (.p 17 .done)))))))))))))))))) (by kernel_rfl) (fun K hK => ?_); refine Qx Y Y Y (Qx Y Y Y (Qx Y Y Y (Qk (iadd (by omega) (by omega)) Y Y Y Y ?_)))
      refine Zv ((limbs a).length + (limbs b).length) Y Y Y (by simp [ints]; omega) Y sNat (by omega) (by omega) Y ?_
      rw [eiq]; refine Qx Y Y Y (Qx Y Y Y (Ql Y Y Y sNat (by omega) (X3 (by omega) (by omega)) Y ?_)); refine Qx Y Y Y (Qx Y Y Y (Qx Y Y Y ?_)); rw [eix]
      refine QJ Y Y Y Y (ints_get (by omega)) lInt Y ?_
      refine XQ Y Y Y lInt Y (QW gorlimb (YK (limbs b) q) Y Y Y Y (Qk (imul (by omega) (by omega)) Y Y Y Y ?_))
      refine Qk (iadd (by omega) (by omega)) Y Y Y Y ?_
      refine Qk (iadd (by omega) (by omega)) Y Y Y Y ?_
      refine Qv Y Y Y (Qj (hK _ _ (Qz (Qw ?_)))); clear hK K; refine Qq (fun K hK => ?_); refine Qx Y Y Y (Qx Y Y Y (Qx Y Y Y (Qk (iadd (by omega) (by omega)) Y Y Y Y ?_))); refine Qx Y Y Y (Qk (irem (by omega) (by omega)) Y Y Y Y ?_)
      refine Zv ((limbs a).length + (limbs b).length) Y Y Y (by simp [ints]; omega) Y sNat (by omega) (by omega) Y ?_
      rw [eiq]
      refine X6 Y Y Y Y Y zInt (by simp [Ent.cs, ints]; omega) ?_
      simp only [Ent.setc, ints_set]; refine Qj (hK _ _ (Qz ?_)); clear hK K; refine Qq (fun K hK => ?_); refine Qx Y Y Y (Qk (iquo (by omega) (by omega) (by omega)) Y Y Y Y ?_); refine Qv Y Y Y (Qj (hK _ _ (Qz ?_))); clear hK K; refine Qq (fun K hK => ?_); refine Qx Y Y Y (Qk (iadd (by omega) (by omega)) Y Y Y Y ?_); refine Qv Y Y Y (Qj (hK _ _ (Q3 ?_))); clear hK K; refine Q9 (q + 1, zs.set (i + q) ((zs.getD (i + q) 0 + (limbs a).getD i 0 * (limbs b).getD q 0 + c) % 1073741824), (zs.getD (i + q) 0 + (limbs a).getD i 0 * (limbs b).getD q 0 + c) / 1073741824) st.1 st.2 (by exact QX Y ⟨rfl, rfl, rfl, rfl, rfl, by simp only [Int.natCast_add]; rfl, trivial⟩)
    · refine Qx Y Y Y (Qk igtr Y Y Y Y (QU Y Y Y Y (Qj (hK _ _ (Qz ?_))))); clear hK K; refine Q2 Y (fun g2 => ?_) (fun g2 => ?_)
      · have st := step (by omega); clear step fin; refine Q1 (Qz (Qw (Q4 (Qw ?_)))); refine Xu mixed 18 (.p 0 (.p 1 (.p 2 (.p 3 (.p 4 (.p 6 (.p 7 (.p 8 (.p 10 (.p 11 (.p 15 (.f 5 (.f 9 (.m 12 (.p 13 (.p 14 (.p 16 (.p 17 .done)))))))))))))))))) (by kernel_rfl) (fun K hK => ?_); refine Qx Y Y Y (Qx Y Y Y (Qx Y Y Y (Qk (iadd (by omega) (by omega)) Y Y Y Y ?_)))
        refine Zv ((limbs a).length + (limbs b).length) Y Y Y (by simp [ints]; omega) Y sNat (by omega) (by omega) Y ?_
        rw [eiq]; refine Qx Y Y Y (Qx Y Y Y (Ql Y Y Y sNat (by omega) (X3 (by omega) (by omega)) Y ?_)); refine Qx Y Y Y (Qx Y Y Y (Qx Y Y Y ?_)); rw [eix]
        refine QJ Y Y Y Y (ints_get (by omega)) lInt Y ?_
        refine XQ Y Y Y lInt Y (QW gorlimb (YK (limbs b) q) Y Y Y Y (Qk (imul (by omega) (by omega)) Y Y Y Y ?_))
        refine Qk (iadd (by omega) (by omega)) Y Y Y Y ?_
        refine Qk (iadd (by omega) (by omega)) Y Y Y Y ?_
        refine Qv Y Y Y (Qj (hK _ _ (Qz (Qw ?_)))); clear hK K; refine Qq (fun K hK => ?_); refine Qx Y Y Y (Qx Y Y Y (Qx Y Y Y (Qk (iadd (by omega) (by omega)) Y Y Y Y ?_))); refine Qx Y Y Y (Qk (irem (by omega) (by omega)) Y Y Y Y ?_)
        refine Zv ((limbs a).length + (limbs b).length) Y Y Y (by simp [ints]; omega) Y sNat (by omega) (by omega) Y ?_
        rw [eiq]
        refine X6 Y Y Y Y Y zInt (by simp [Ent.cs, ints]; omega) ?_
        simp only [Ent.setc, ints_set]; refine Qj (hK _ _ (Qz ?_)); clear hK K; refine Qq (fun K hK => ?_); refine Qx Y Y Y (Qk (iquo (by omega) (by omega) (by omega)) Y Y Y Y ?_); refine Qv Y Y Y (Qj (hK _ _ (Qz ?_))); clear hK K; refine Qq (fun K hK => ?_); refine Qx Y Y Y (Qk (iadd (by omega) (by omega)) Y Y Y Y ?_); refine Qv Y Y Y (Qj (hK _ _ (Q3 ?_))); clear hK K; refine Q9 (q + 1, zs.set (i + q) ((zs.getD (i + q) 0 + (limbs a).getD i 0 * (limbs b).getD q 0 + c) % 1073741824), (zs.getD (i + q) 0 + (limbs a).getD i 0 * (limbs b).getD q 0 + c) / 1073741824) st.1 st.2 (by exact QX Y ⟨rfl, rfl, rfl, rfl, rfl, by simp only [Int.natCast_add]; rfl, trivial⟩)
      · have fe := fin g1 g2; clear step fin; refine Qp (Qz (Qq fun K hK => ?_)); refine Qx Y Y Y (Qk (iadd (by omega) (by omega)) Y Y Y Y ?_); refine Qv Y Y Y (Qj (hK _ _ (Q3 ?_))); clear hK K; refine Q9 (i + 1, zs) (by dsimp only; omega) fe (by exact QX Y ⟨rfl, rfl, rfl, by simp only [Int.natCast_add]; rfl, trivial⟩)
  · have hi' : i = (limbs a).length := by omega
    have e4 : trimL out = limbs (a * b) := by
      rw [Z7 hok, hv, hi', Zr (Nat.le_refl _), ZW]
      congr 1
    refine St.freeze 0 _ Y (Zw _ _) XZ (Qp (Qz (Qw (Qq fun K hK => ?_)))); refine Qx Y Y Y (QW gorTrim (rTrim_ok out (by omega)) Y Y Y Y ?_); rw [e4]; refine Qv Y Y Y (Qj (hK _ _ (Qz (Q0 ?_)))); clear hK K; refine QK [_] rfl (Qu Y QQ) Y Y
theorem gorTimes : InGo Tryz.prog 135 := InGo.of Tryz.func135 (by kernel_rfl) (by kernel_rfl)
end Go.Proofs.YtlkdkbdgnjcopaaGreat
