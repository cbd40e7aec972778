/-
  The plain law of claims: insertion sort.
-/
import Derived.Test.YtkeoejfbbmdloaaL2
namespace Go.Proofs.Ytkeoejfbbmdloaa
open Go.Own

theorem Asc.snoc {l : List Cl} {y : Cl} (h : Asc l) (hy : ∀ z ∈ l, cmpC z y < 0) : Asc (l ++ [y]) := by
  induction l with
  | nil => trivial
  | cons x r ih =>
    refine Asc.cons (fun z hz => ?_) (ih h.tail (fun z hz => hy z (List.mem_cons_of_mem _ hz)))
    rcases List.mem_append.1 hz with hz | hz
    · exact h.head z hz
    · rw [List.mem_singleton.1 hz]; exact hy x (List.mem_cons_self ..)
theorem Asc.unsnoc {l : List Cl} {y : Cl} (h : Asc (l ++ [y])) : Asc l ∧ ∀ z ∈ l, cmpC z y < 0 := by
  induction l with
  | nil => exact ⟨trivial, fun z hz => by cases hz⟩
  | cons x r ih =>
    obtain ⟨h1, h2⟩ := ih h.tail
    refine ⟨Asc.cons (fun z hz => h.head z (List.mem_append_left _ hz)) h1, fun z hz => ?_⟩
    rcases List.mem_cons.1 hz with rfl | hz
    · exact h.head y (List.mem_append_right _ (List.mem_singleton.2 rfl))
    · exact h2 z hz
theorem Asc.nodup {l : List Cl} (h : Asc l) : l.Nodup := by
  induction l with
  | nil => exact List.nodup_nil
  | cons x r ih => exact List.nodup_cons.2 ⟨h.head.not, ih h.tail⟩

theorem getD_mid (a : List Cl) (x : Cl) (r : List Cl) : (a ++ x :: r).getD a.length c0 = x := by
  simp [List.getD_eq_getElem?_getD]
theorem sift_spec : ∀ (n : Nat) (a : List Cl) (x : Cl) (r : List Cl), a.length = n → Asc a → x ∉ a → ∃ a', sift (a ++ x :: r) n = a' ++ r ∧ Asc a' ∧ a'.length = n + 1 ∧ ∀ z, z ∈ a' ↔ z ∈ a ∨ z = x
  | 0, a, x, r, hl, _, _ => by
    have : a = [] := List.eq_nil_of_length_eq_zero hl
    subst this
    exact ⟨[x], rfl, trivial, rfl, by simp⟩
  | n + 1, a, x, r, hl, ha, hx => by
    obtain ⟨b, y, rfl⟩ : ∃ b y, a = b ++ [y] := ⟨a.dropLast, a.getLast (by intro h; subst h; simp at hl), (List.dropLast_concat_getLast _).symm⟩
    have hbl : b.length = n := by simpa using hl
    obtain ⟨hb, hby⟩ := ha.unsnoc
    have hxb : x ∉ b := fun h => hx (List.mem_append_left _ h)
    have hxy : x ≠ y := fun h => hx (List.mem_append_right _ (by simp [h]))
    have e1 : (b ++ [y] ++ x :: r).getD (n + 1) c0 = x := by
      have := getD_mid (b ++ [y]) x r
      rwa [hl] at this
    have e2 : (b ++ [y] ++ x :: r).getD n c0 = y := by
      have := getD_mid b y (x :: r)
      rw [hbl] at this
      rw [List.append_assoc]; exact this
    have e3 : swp (b ++ [y] ++ x :: r) n = b ++ x :: (y :: r) := by
      unfold swp
      rw [e1, e2, List.append_assoc, ← hbl]
      simp [List.set_append_right]
    simp only [sift]
    rw [e1, e2, e3]
    by_cases hc : cmpC x y < 0
    · rw [if_pos hc]
      obtain ⟨b', h1, h2, h3, h4⟩ := sift_spec n b x (y :: r) hbl hb hxb
      refine ⟨b' ++ [y], by rw [h1]; simp, h2.snoc (fun z hz => ?_), by simp [h3], fun z => ?_⟩
      · rcases (h4 z).1 hz with h5 | h5
        · exact hby z h5
        · rw [h5]; exact hc
      · rw [List.mem_append, h4, List.mem_append]
        constructor
        · rintro ((h | h) | h)
          · exact .inl (.inl h)
          · exact .inr h
          · exact .inl (.inr h)
        · rintro ((h | h) | h)
          · exact .inl (.inl h)
          · exact .inr h
          · exact .inl (.inr h)
    · rw [if_neg hc]
      have hyx : cmpC y x < 0 := by
        rw [cmpC_anti x y]
        have : cmpC x y ≠ 0 := fun h => hxy (cmpC_eq h)
        omega
      refine ⟨b ++ [y] ++ [x], by simp, ha.snoc (fun z hz => ?_), by simp [hbl], fun z => by rw [List.mem_append, List.mem_singleton]⟩
      rcases List.mem_append.1 hz with h5 | h5
      · exact cmpC_trans (hby z h5) hyx
      · rw [List.mem_singleton.1 h5]; exact hyx

theorem isort_spec (l : List Cl) (hn : l.Nodup) : ∀ i, i < l.length → ∃ p, isort l i = p ++ l.drop (i + 1) ∧ Asc p ∧ p.length = i + 1 ∧ ∀ z, z ∈ p ↔ z ∈ l.take (i + 1)
  | 0, h => ⟨[l.getD 0 c0], by rw [show isort l 0 = l.drop 0 by rfl, dropC h]; rfl, trivial, rfl, fun z => by
      have : l.take 1 = [l.getD 0 c0] := by
        have := dropC h
        rw [List.drop_zero] at this
        conv => lhs; rw [this]
        rfl
      rw [this]⟩
  | i + 1, h => by
    obtain ⟨p, h1, h2, h3, h4⟩ := isort_spec l hn i (by omega)
    have ht : l.take (i + 2) = l.take (i + 1) ++ [l.getD (i + 1) c0] := by
      rw [List.take_add_one, List.getElem?_eq_getElem h, List.getD_eq_getElem?_getD, List.getElem?_eq_getElem h]; rfl
    have hx : l.getD (i + 1) c0 ∉ p := fun hm => by
      have hm := (h4 _).1 hm
      have h5 : (l.take (i + 2)).Nodup := hn.sublist (List.take_sublist _ _)
      rw [ht] at h5
      exact (List.nodup_append.1 h5).2.2 _ hm _ (by simp) rfl
    simp only [isort]
    rw [h1, dropC h]
    obtain ⟨p', g1, g2, g3, g4⟩ := sift_spec (i + 1) p (l.getD (i + 1) c0) (l.drop (i + 2)) h3 h2 hx
    exact ⟨p', g1, g2, g3, fun z => by rw [g4, h4, ht]; simp⟩

theorem srt_spec {l : List Cl} (hn : l.Nodup) : Asc (srt l) ∧ ∀ z, z ∈ srt l ↔ z ∈ l := by
  by_cases h : l = []
  · subst h; exact ⟨trivial, fun z => Iff.rfl⟩
  · have hl := List.length_pos_iff.2 h
    obtain ⟨p, h1, h2, h3, h4⟩ := isort_spec l hn (l.length - 1) (by omega)
    have e : srt l = p := by
      unfold srt
      rw [h1, List.drop_of_length_le (by omega), List.append_nil]
    rw [e]
    exact ⟨h2, fun z => by rw [h4, List.take_of_length_le (by omega)]⟩
theorem srt_asc {l : List Cl} (h : Asc l) : srt l = l := Asc.ext (srt_spec h.nodup).1 h (srt_spec h.nodup).2

/-- Two ascending lists without common claims, sorted together. -/
theorem srt_app {l m : List Cl} (hl : Asc l) (hm : Asc m) (hd : ∀ z, z ∈ l → z ∉ m) : Asc (srt (l ++ m)) ∧ ∀ z, z ∈ srt (l ++ m) ↔ z ∈ l ∨ z ∈ m := by
  have hn : (l ++ m).Nodup := List.nodup_append.2 ⟨hl.nodup, hm.nodup, fun a ha b hb e => hd a ha (e ▸ hb)⟩
  exact ⟨(srt_spec hn).1, fun z => by rw [(srt_spec hn).2, List.mem_append]⟩

end Go.Proofs.Ytkeoejfbbmdloaa
