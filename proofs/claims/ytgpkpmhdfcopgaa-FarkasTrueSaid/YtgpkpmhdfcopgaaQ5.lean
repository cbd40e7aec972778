/-
  Walks: routescoperef02.Gcd, Int.
-/
import Derived.Test.YtgpkpmhdfcopgaaQ4
namespace Go.Proofs.Ytgpkpmhdfcopgaa
open Go.Own Go.Limbs
attribute [local irreducible] St Ops Go.Own.Fin Ok

theorem limbs_get0 {x : Nat} (h : x ≠ 0) : (limbs x).getD 0 0 = ((x % 1073741824 : Nat) : Int) := by rw [limbs_pos h]; rfl
theorem gcd_half {x y : Nat} (hx : x % 2 = 0) (hy : y % 2 = 1) : Nat.gcd (x / 2) y = Nat.gcd x y := by
  have e : x = 2 * (x / 2) := by omega
  have hc : Nat.Coprime 2 y := by
    unfold Nat.Coprime
    rw [Nat.gcd_rec, hy]; rfl
  conv => rhs; rw [e]
  exact (hc.gcd_mul_left_cancel _).symm
theorem gcd_two {x y : Nat} (hx : x % 2 = 0) (hy : y % 2 = 0) : 2 * Nat.gcd (x / 2) (y / 2) = Nat.gcd x y := by
  rw [← Nat.gcd_mul_left, show 2 * (x / 2) = x by omega, show 2 * (y / 2) = y by omega]
theorem gcd_less {x y : Nat} (h : y ≤ x) : Nat.gcd (x - y) y = Nat.gcd x y := by
  conv => rhs; rw [show x = (x - y) + y by omega]
  rw [Nat.gcd_add_self_left]

theorem len_add {x y k : Nat} (h1 : x < 1073741824 ^ k) (h2 : y < 1073741824 ^ k) : (limbs (x + y)).length ≤ k + 1 := by
  refine limbs_length_le ?_
  rw [Nat.pow_succ]; omega

set_option maxHeartbeats 8000000 in
theorem rGcd_ok (a b : Nat) (la : (limbs a).length ≤ 10000) (lb : (limbs b).length ≤ 10000) : Ok Try.prog 66 [natC a, natC b] (natC (Nat.gcd a b)) := by
  refine Ok.enter Try.func66 rfl _ Try.ntmps66 rfl ?_
  intro S w
  (refine St.seq ?_; refine St.regionK (fun K hK => ?_); refine Ops.assign rfl rfl rfl ?_; refine Ops.nil (hK _ _ ?_); clear hK K; refine Fin.then ?_; refine St.seq ?_; refine St.seq ?_; refine St.regionK (fun K hK => ?_); refine Ops.move rfl rfl rfl ?_; refine Ops.lenF rfl rfl (by with_reducible first | exact sNat.und | exact sInts.und) (List.length_map ..) rfl ?_; refine Ops.ibin ieql rfl rfl rfl rfl ?_; refine Ops.move rfl rfl rfl ?_)
  have early : (limbs a).length = 0 ∨ (limbs b).length = 0 → natC (Nat.gcd a b) = natC (a + b) := by
    rintro (h | h)
    · have : a = 0 := limbs_nil (List.eq_nil_of_length_eq_zero h)
      subst this; simp
    · have : b = 0 := limbs_nil (List.eq_nil_of_length_eq_zero h)
      subst this; simp
  refine Ops.splitP 9 rfl (fun g1 => ?_) (fun g1 => ?_)
  · have ee := early (.inl (by omega))
    (refine Ops.skip rfl rfl rfl ?_; refine Ops.skip rfl rfl rfl ?_; refine Ops.skip rfl rfl rfl ?_; refine Ops.pickT rfl rfl rfl rfl ?_; refine Ops.nil (hK _ _ ?_); clear hK K; refine Fin.then ?_; refine St.condT rfl ?_; refine St.seq ?_; refine St.regionK (fun K hK => ?_); refine Ops.move rfl rfl rfl ?_; refine Ops.move rfl rfl rfl ?_)
    refine Ops.call gorPlus (rPlus_ok a b (by omega) (by omega)) rfl rfl rfl rfl ?_
    (refine Ops.assign rfl rfl rfl ?_; refine Ops.nil (hK _ _ ?_); clear hK K; refine Fin.then ?_; refine St.ret ?_; refine Fin.thenRet ?_)
    refine Fin.ret [_] rfl (AllRes.tmp rfl AllRes.nil) (by rw [ee]; rfl) rfl
  · (refine Ops.move rfl rfl rfl ?_; refine Ops.lenF rfl rfl (by with_reducible first | exact sNat.und | exact sInts.und) (List.length_map ..) rfl ?_; refine Ops.ibin ieql rfl rfl rfl rfl ?_; refine Ops.pickF rfl rfl rfl rfl ?_; refine Ops.nil (hK _ _ ?_); clear hK K; refine Fin.then ?_)
    refine St.condP rfl (fun g2 => ?_) (fun g2 => ?_)
    · have ee := early (.inr (by omega))
      (refine St.seq ?_; refine St.regionK (fun K hK => ?_); refine Ops.move rfl rfl rfl ?_; refine Ops.move rfl rfl rfl ?_)
      refine Ops.call gorPlus (rPlus_ok a b (by omega) (by omega)) rfl rfl rfl rfl ?_
      (refine Ops.assign rfl rfl rfl ?_; refine Ops.nil (hK _ _ ?_); clear hK K; refine Fin.then ?_; refine St.ret ?_; refine Fin.thenRet ?_)
      refine Fin.ret [_] rfl (AllRes.tmp rfl AllRes.nil) (by rw [ee]; rfl) rfl
    · have ha0 : a ≠ 0 := limbs_len_pos.mp (by omega)
      have hb0 : b ≠ 0 := limbs_len_pos.mp (by omega)
      clear early
      have e11 : natC 1 = .fr (sliceT 1 [[intC 1]]) := by show intsC (limbs 1) = _; rw [limbs_one (by decide) (by decide)]; rfl
      have h00 : (0 : Int).toNat = 0 := rfl
      (refine St.skip ?_; refine Fin.then ?_; refine St.seq ?_; refine St.regionK (fun K hK => ?_))
      refine Ops.lit1 rfl rfl (by with_reducible exact sNat) rfl rfl rfl ?_
      rw [← e11]
      (refine Ops.assign rfl rfl rfl ?_; refine Ops.nil (hK _ _ ?_); clear hK K; refine Fin.then ?_; refine St.seq ?_; refine St.block ?_)
      refine St.loop (α := Nat × Nat × Nat) (fun s => 0 < s.1 ∧ 0 < s.2.1 ∧ 0 < s.2.2 ∧ s.1 ≤ a ∧ s.2.1 ≤ b ∧ s.2.2 * s.1 ≤ a ∧ s.2.2 * Nat.gcd s.1 s.2.1 = Nat.gcd a b)
        (fun s => [(0, .ct (natC s.1)), (1, .ct (natC s.2.1)), (5, .ct (natC s.2.2))]) (fun _ => []) (fun s => s.1) (a, b, 1) ⟨by dsimp only; omega, by dsimp only; omega, Nat.one_pos, Nat.le_refl _, Nat.le_refl _, by dsimp only; omega, by dsimp only; omega⟩ (by exact Entails.of rfl ⟨rfl, rfl, rfl, trivial⟩) ?_
      rintro ⟨x, y, u⟩ ⟨hx, hy, hu, hxa, hyb, hua, hg⟩
      dsimp only at hx hy hu hxa hyb hua hg ⊢
      have lx : (limbs x).length ≤ 10000 := Nat.le_trans (limbs_len_mono hxa) la
      have ly : (limbs y).length ≤ 10000 := Nat.le_trans (limbs_len_mono hyb) lb
      have lu : (limbs u).length ≤ 10000 := Nat.le_trans (limbs_len_mono (Nat.le_trans (Nat.le_mul_of_pos_right u hx) hua)) la
      have px := limbs_len_pos.mpr (show x ≠ 0 by omega)
      have py := limbs_len_pos.mpr (show y ≠ 0 by omega)
      have gx := limbs_get0 (show x ≠ 0 by omega)
      have gy := limbs_get0 (show y ≠ 0 by omega)
      (refine St.seq ?_; refine St.seq ?_; refine St.regionK (fun K hK => ?_); refine Ops.move rfl rfl rfl ?_; refine Ops.idxF rfl rfl rfl (by with_reducible first | exact sNat | exact sInts) (by omega) (ints_at (by omega) (by omega)) rfl ?_; refine Ops.ld1F rfl rfl rfl (by with_reducible first | exact lInt | exact lNat | exact lBool | exact lInts) rfl ?_)
      rw [h00, gx]
      (refine Ops.ibin (irem (by omega) (by omega)) rfl rfl rfl rfl ?_; refine Ops.ibin ieql rfl rfl rfl rfl ?_; refine Ops.move rfl rfl rfl ?_)
      refine Ops.splitP 23 rfl (fun g3 => ?_) (fun g3 => ?_)
      · (refine Ops.move rfl rfl rfl ?_; refine Ops.idxF rfl rfl rfl (by with_reducible first | exact sNat | exact sInts) (by omega) (ints_at (by omega) (by omega)) rfl ?_; refine Ops.ld1F rfl rfl rfl (by with_reducible first | exact lInt | exact lNat | exact lBool | exact lInts) rfl ?_)
        rw [h00, gy]
        (refine Ops.ibin (irem (by omega) (by omega)) rfl rfl rfl rfl ?_; refine Ops.ibin ieql rfl rfl rfl rfl ?_; refine Ops.pickT rfl rfl rfl rfl ?_; refine Ops.nil (hK _ _ ?_); clear hK K; refine Fin.then ?_)
        refine St.condP rfl (fun g4 => ?_) (fun g4 => ?_)
        · (refine St.skip ?_; refine Fin.then ?_; refine St.block ?_; refine St.regionK (fun K hK => ?_); refine Ops.move rfl rfl rfl ?_)
          refine Ops.call gorhalf (rhalf_ok x (by omega)) rfl rfl rfl rfl ?_
          (refine Ops.move rfl rfl rfl ?_)
          refine Ops.call gorhalf (rhalf_ok y (by omega)) rfl rfl rfl rfl ?_
          (refine Ops.move rfl rfl rfl ?_; refine Ops.move rfl rfl rfl ?_)
          refine Ops.call gorPlus (rPlus_ok u u (by omega) (by omega)) rfl rfl rfl rfl ?_
          (refine Ops.assign rfl rfl rfl ?_; refine Ops.assign rfl rfl rfl ?_; refine Ops.assign rfl rfl rfl ?_; refine Ops.nil (hK _ _ ?_); clear hK K; refine Fin.blockN ?_; refine Fin.thenN ?_)
          have q1 := gcd_two (x := x) (y := y) (by omega) (by omega)
          refine Fin.next (x / 2, y / 2, u + u) (by dsimp only; omega) ⟨by dsimp only; omega, by dsimp only; omega, by dsimp only; omega, by dsimp only; omega, by dsimp only; omega, ?_, ?_⟩ (by exact Entails.of rfl ⟨rfl, rfl, rfl, trivial⟩)
          · dsimp only
            rw [← Nat.two_mul, Nat.mul_comm 2 u, Nat.mul_assoc, show 2 * (x / 2) = x by omega]; exact hua
          · dsimp only
            rw [← Nat.two_mul, Nat.mul_comm 2 u, Nat.mul_assoc, q1]; exact hg
        · have hodd : x % 2 = 1 ∨ y % 2 = 1 := by omega
          clear g3 g4 gx gy
          (refine St.exit ?_; refine Fin.then ?_; refine St.seq ?_; refine St.block ?_)
          refine St.loop (α := Nat × Nat) (fun s => s.1 ≤ a ∧ s.2 ≤ b ∧ (s.1 % 2 = 1 ∨ s.2 % 2 = 1) ∧ u * Nat.gcd s.1 s.2 = Nat.gcd a b)
            (fun s => [(0, .ct (natC s.1)), (1, .ct (natC s.2)), (5, .ct (natC u))]) (fun _ => []) (fun s => s.1 + s.2) (x, y) ⟨hxa, hyb, hodd, hg⟩ (by exact Entails.of rfl ⟨rfl, rfl, rfl, trivial⟩) ?_
          clear hodd hg hxa hyb hua px py lx ly hx hy
          rintro ⟨p, q⟩ ⟨hpa, hqb, hodd, hg⟩
          dsimp only at hpa hqb hodd hg ⊢
          have lp : (limbs p).length ≤ 10000 := Nat.le_trans (limbs_len_mono hpa) la
          have lq : (limbs q).length ≤ 10000 := Nat.le_trans (limbs_len_mono hqb) lb
          have done : p = 0 ∨ q = 0 → natC (Nat.gcd a b) = natC (u * (p + q)) := by
            rintro (h | h)
            · subst h; rw [← hg]; simp
            · subst h; rw [← hg]; simp
          have lpq : (limbs (p + q)).length ≤ 10001 := by
            have h1 := lt_of_limbs_length lp
            have h2 := lt_of_limbs_length lq
            exact len_add h1 h2
          (refine St.seq ?_; refine St.seq ?_; refine St.regionK (fun K hK => ?_); refine Ops.move rfl rfl rfl ?_; refine Ops.lenF rfl rfl (by with_reducible first | exact sNat.und | exact sInts.und) (List.length_map ..) rfl ?_; refine Ops.ibin igtr rfl rfl rfl rfl ?_; refine Ops.move rfl rfl rfl ?_)
          refine Ops.splitP 40 rfl (fun g5 => ?_) (fun g5 => ?_)
          · (refine Ops.move rfl rfl rfl ?_; refine Ops.lenF rfl rfl (by with_reducible first | exact sNat.und | exact sInts.und) (List.length_map ..) rfl ?_; refine Ops.ibin igtr rfl rfl rfl rfl ?_; refine Ops.pickT rfl rfl rfl rfl ?_; refine Ops.nil (hK _ _ ?_); clear hK K; refine Fin.then ?_)
            refine St.condP rfl (fun g6 => ?_) (fun g6 => ?_)
            · have hp0 : p ≠ 0 := limbs_len_pos.mp (by omega)
              have hq0 : q ≠ 0 := limbs_len_pos.mp (by omega)
              have gp := limbs_get0 hp0
              have gq := limbs_get0 hq0
              clear done
              (refine St.skip ?_; refine Fin.then ?_; refine St.block ?_; refine St.block ?_; refine St.seq ?_; refine St.regionK (fun K hK => ?_); refine Ops.move rfl rfl rfl ?_; refine Ops.idxF rfl rfl rfl (by with_reducible first | exact sNat | exact sInts) (by omega) (ints_at (by omega) (by omega)) rfl ?_; refine Ops.ld1F rfl rfl rfl (by with_reducible first | exact lInt | exact lNat | exact lBool | exact lInts) rfl ?_)
              rw [h00, gp]
              (refine Ops.ibin (irem (by omega) (by omega)) rfl rfl rfl rfl ?_; refine Ops.ibin ieql rfl rfl rfl rfl ?_; refine Ops.assign rfl rfl rfl ?_; refine Ops.nil (hK _ _ ?_); clear hK K; refine Fin.then ?_)
              refine St.condP rfl (fun g7 => ?_) (fun g7 => ?_)
              · have q1 := gcd_half (x := p) (y := q) (by omega) (by omega)
                (refine St.regionK (fun K hK => ?_); refine Ops.move rfl rfl rfl ?_)
                refine Ops.call gorhalf (rhalf_ok p (by omega)) rfl rfl rfl rfl ?_
                (refine Ops.assign rfl rfl rfl ?_; refine Ops.nil (hK _ _ ?_); clear hK K; refine Fin.blockN ?_; refine Fin.blockN ?_; refine Fin.thenN ?_)
                refine Fin.next (p / 2, q) (by dsimp only; omega) ⟨by dsimp only; omega, hqb, by dsimp only; omega, by dsimp only; rw [q1]; exact hg⟩ (by exact Entails.of rfl ⟨rfl, rfl, rfl, trivial⟩)
              · (refine St.seq ?_; refine St.regionK (fun K hK => ?_); refine Ops.move rfl rfl rfl ?_; refine Ops.idxF rfl rfl rfl (by with_reducible first | exact sNat | exact sInts) (by omega) (ints_at (by omega) (by omega)) rfl ?_; refine Ops.ld1F rfl rfl rfl (by with_reducible first | exact lInt | exact lNat | exact lBool | exact lInts) rfl ?_)
                rw [h00, gq]
                (refine Ops.ibin (irem (by omega) (by omega)) rfl rfl rfl rfl ?_; refine Ops.ibin ieql rfl rfl rfl rfl ?_; refine Ops.assign rfl rfl rfl ?_; refine Ops.nil (hK _ _ ?_); clear hK K; refine Fin.then ?_)
                refine St.condP rfl (fun g8 => ?_) (fun g8 => ?_)
                · have q1 := gcd_half (x := q) (y := p) (by omega) (by omega)
                  (refine St.regionK (fun K hK => ?_); refine Ops.move rfl rfl rfl ?_)
                  refine Ops.call gorhalf (rhalf_ok q (by omega)) rfl rfl rfl rfl ?_
                  (refine Ops.assign rfl rfl rfl ?_; refine Ops.nil (hK _ _ ?_); clear hK K; refine Fin.blockN ?_; refine Fin.blockN ?_; refine Fin.thenN ?_)
                  refine Fin.next (p, q / 2) (by dsimp only; omega) ⟨hpa, by dsimp only; omega, by dsimp only; omega, by dsimp only; rw [Nat.gcd_comm, q1, Nat.gcd_comm]; exact hg⟩ (by exact Entails.of rfl ⟨rfl, rfl, rfl, trivial⟩)
                · (refine St.seq ?_; refine St.regionK (fun K hK => ?_); refine Ops.move rfl rfl rfl ?_; refine Ops.move rfl rfl rfl ?_)
                  refine Ops.call gorCompare (rCompare_ok p q (by omega) (by omega)) rfl rfl rfl rfl ?_
                  (refine Ops.ibin igeq rfl rfl rfl rfl ?_; refine Ops.assign rfl rfl rfl ?_; refine Ops.nil (hK _ _ ?_); clear hK K; refine Fin.then ?_)
                  refine St.condP rfl (fun g9 => ?_) (fun g9 => ?_)
                  · have hle : q ≤ p := by have := cmpI_neg (a := p) (b := q); omega
                    have q1 := gcd_less hle
                    (refine St.regionK (fun K hK => ?_); refine Ops.move rfl rfl rfl ?_; refine Ops.move rfl rfl rfl ?_)
                    refine Ops.call gorLess (rLess_ok p q hle (by omega)) rfl rfl rfl rfl ?_
                    (refine Ops.assign rfl rfl rfl ?_; refine Ops.nil (hK _ _ ?_); clear hK K; refine Fin.blockN ?_; refine Fin.blockN ?_; refine Fin.thenN ?_)
                    refine Fin.next (p - q, q) (by dsimp only; omega) ⟨by dsimp only; omega, hqb, by dsimp only; omega, by dsimp only; rw [q1]; exact hg⟩ (by exact Entails.of rfl ⟨rfl, rfl, rfl, trivial⟩)
                  · have hle : p ≤ q := by have := cmpI_neg (a := p) (b := q); omega
                    have q1 := gcd_less hle
                    (refine St.regionK (fun K hK => ?_); refine Ops.move rfl rfl rfl ?_; refine Ops.move rfl rfl rfl ?_)
                    refine Ops.call gorLess (rLess_ok q p hle (by omega)) rfl rfl rfl rfl ?_
                    (refine Ops.assign rfl rfl rfl ?_; refine Ops.nil (hK _ _ ?_); clear hK K; refine Fin.blockN ?_; refine Fin.blockN ?_; refine Fin.thenN ?_)
                    refine Fin.next (p, q - p) (by dsimp only; omega) ⟨hpa, by dsimp only; omega, by dsimp only; omega, by dsimp only; rw [Nat.gcd_comm, q1, Nat.gcd_comm]; exact hg⟩ (by exact Entails.of rfl ⟨rfl, rfl, rfl, trivial⟩)
            · have hd := done (.inr (limbs_nil (List.eq_nil_of_length_eq_zero (by omega))))
              (refine St.exit ?_; refine Fin.then ?_; refine St.seq ?_; refine St.regionK (fun K hK => ?_); refine Ops.move rfl rfl rfl ?_; refine Ops.move rfl rfl rfl ?_; refine Ops.move rfl rfl rfl ?_)
              refine Ops.call gorPlus (rPlus_ok p q (by omega) (by omega)) rfl rfl rfl rfl ?_
              refine Ops.call gorTimes (rTimes_ok u (p + q) (by omega)) rfl rfl rfl rfl ?_
              (refine Ops.assign rfl rfl rfl ?_; refine Ops.nil (hK _ _ ?_); clear hK K; refine Fin.then ?_; refine St.ret ?_)
              refine Fin.ret [_] rfl (AllRes.tmp rfl AllRes.nil) (by rw [hd]; rfl) rfl
          · have hd := done (.inl (limbs_nil (List.eq_nil_of_length_eq_zero (by omega))))
            (refine Ops.skip rfl rfl rfl ?_; refine Ops.skip rfl rfl rfl ?_; refine Ops.skip rfl rfl rfl ?_; refine Ops.pickF rfl rfl rfl rfl ?_; refine Ops.nil (hK _ _ ?_); clear hK K; refine Fin.then ?_; refine St.condF rfl ?_; refine St.exit ?_; refine Fin.then ?_; refine St.seq ?_; refine St.regionK (fun K hK => ?_); refine Ops.move rfl rfl rfl ?_; refine Ops.move rfl rfl rfl ?_; refine Ops.move rfl rfl rfl ?_)
            refine Ops.call gorPlus (rPlus_ok p q (by omega) (by omega)) rfl rfl rfl rfl ?_
            refine Ops.call gorTimes (rTimes_ok u (p + q) (by omega)) rfl rfl rfl rfl ?_
            (refine Ops.assign rfl rfl rfl ?_; refine Ops.nil (hK _ _ ?_); clear hK K; refine Fin.then ?_; refine St.ret ?_)
            refine Fin.ret [_] rfl (AllRes.tmp rfl AllRes.nil) (by rw [hd]; rfl) rfl
      · have hodd : x % 2 = 1 ∨ y % 2 = 1 := by omega
        clear g3 gx gy
        (refine Ops.skip rfl rfl rfl ?_; refine Ops.skip rfl rfl rfl ?_; refine Ops.skip rfl rfl rfl ?_; refine Ops.skip rfl rfl rfl ?_; refine Ops.skip rfl rfl rfl ?_; refine Ops.pickF rfl rfl rfl rfl ?_; refine Ops.nil (hK _ _ ?_); clear hK K; refine Fin.then ?_; refine St.condF rfl ?_; refine St.exit ?_; refine Fin.then ?_; refine St.seq ?_; refine St.block ?_)
        refine St.loop (α := Nat × Nat) (fun s => s.1 ≤ a ∧ s.2 ≤ b ∧ (s.1 % 2 = 1 ∨ s.2 % 2 = 1) ∧ u * Nat.gcd s.1 s.2 = Nat.gcd a b)
          (fun s => [(0, .ct (natC s.1)), (1, .ct (natC s.2)), (5, .ct (natC u))]) (fun _ => []) (fun s => s.1 + s.2) (x, y) ⟨hxa, hyb, hodd, hg⟩ (by exact Entails.of rfl ⟨rfl, rfl, rfl, trivial⟩) ?_
        clear hodd hg hxa hyb hua px py lx ly hx hy
        rintro ⟨p, q⟩ ⟨hpa, hqb, hodd, hg⟩
        dsimp only at hpa hqb hodd hg ⊢
        have lp : (limbs p).length ≤ 10000 := Nat.le_trans (limbs_len_mono hpa) la
        have lq : (limbs q).length ≤ 10000 := Nat.le_trans (limbs_len_mono hqb) lb
        have done : p = 0 ∨ q = 0 → natC (Nat.gcd a b) = natC (u * (p + q)) := by
          rintro (h | h)
          · subst h; rw [← hg]; simp
          · subst h; rw [← hg]; simp
        have lpq : (limbs (p + q)).length ≤ 10001 := by
          have h1 := lt_of_limbs_length lp
          have h2 := lt_of_limbs_length lq
          exact len_add h1 h2
        (refine St.seq ?_; refine St.seq ?_; refine St.regionK (fun K hK => ?_); refine Ops.move rfl rfl rfl ?_; refine Ops.lenF rfl rfl (by with_reducible first | exact sNat.und | exact sInts.und) (List.length_map ..) rfl ?_; refine Ops.ibin igtr rfl rfl rfl rfl ?_; refine Ops.move rfl rfl rfl ?_)
        refine Ops.splitP 40 rfl (fun g5 => ?_) (fun g5 => ?_)
        · (refine Ops.move rfl rfl rfl ?_; refine Ops.lenF rfl rfl (by with_reducible first | exact sNat.und | exact sInts.und) (List.length_map ..) rfl ?_; refine Ops.ibin igtr rfl rfl rfl rfl ?_; refine Ops.pickT rfl rfl rfl rfl ?_; refine Ops.nil (hK _ _ ?_); clear hK K; refine Fin.then ?_)
          refine St.condP rfl (fun g6 => ?_) (fun g6 => ?_)
          · have hp0 : p ≠ 0 := limbs_len_pos.mp (by omega)
            have hq0 : q ≠ 0 := limbs_len_pos.mp (by omega)
            have gp := limbs_get0 hp0
            have gq := limbs_get0 hq0
            clear done
            (refine St.skip ?_; refine Fin.then ?_; refine St.block ?_; refine St.block ?_; refine St.seq ?_; refine St.regionK (fun K hK => ?_); refine Ops.move rfl rfl rfl ?_; refine Ops.idxF rfl rfl rfl (by with_reducible first | exact sNat | exact sInts) (by omega) (ints_at (by omega) (by omega)) rfl ?_; refine Ops.ld1F rfl rfl rfl (by with_reducible first | exact lInt | exact lNat | exact lBool | exact lInts) rfl ?_)
            rw [h00, gp]
            (refine Ops.ibin (irem (by omega) (by omega)) rfl rfl rfl rfl ?_; refine Ops.ibin ieql rfl rfl rfl rfl ?_; refine Ops.assign rfl rfl rfl ?_; refine Ops.nil (hK _ _ ?_); clear hK K; refine Fin.then ?_)
            refine St.condP rfl (fun g7 => ?_) (fun g7 => ?_)
            · have q1 := gcd_half (x := p) (y := q) (by omega) (by omega)
              (refine St.regionK (fun K hK => ?_); refine Ops.move rfl rfl rfl ?_)
              refine Ops.call gorhalf (rhalf_ok p (by omega)) rfl rfl rfl rfl ?_
              (refine Ops.assign rfl rfl rfl ?_; refine Ops.nil (hK _ _ ?_); clear hK K; refine Fin.blockN ?_; refine Fin.blockN ?_; refine Fin.thenN ?_)
              refine Fin.next (p / 2, q) (by dsimp only; omega) ⟨by dsimp only; omega, hqb, by dsimp only; omega, by dsimp only; rw [q1]; exact hg⟩ (by exact Entails.of rfl ⟨rfl, rfl, rfl, trivial⟩)
            · (refine St.seq ?_; refine St.regionK (fun K hK => ?_); refine Ops.move rfl rfl rfl ?_; refine Ops.idxF rfl rfl rfl (by with_reducible first | exact sNat | exact sInts) (by omega) (ints_at (by omega) (by omega)) rfl ?_; refine Ops.ld1F rfl rfl rfl (by with_reducible first | exact lInt | exact lNat | exact lBool | exact lInts) rfl ?_)
              rw [h00, gq]
              (refine Ops.ibin (irem (by omega) (by omega)) rfl rfl rfl rfl ?_; refine Ops.ibin ieql rfl rfl rfl rfl ?_; refine Ops.assign rfl rfl rfl ?_; refine Ops.nil (hK _ _ ?_); clear hK K; refine Fin.then ?_)
              refine St.condP rfl (fun g8 => ?_) (fun g8 => ?_)
              · have q1 := gcd_half (x := q) (y := p) (by omega) (by omega)
                (refine St.regionK (fun K hK => ?_); refine Ops.move rfl rfl rfl ?_)
                refine Ops.call gorhalf (rhalf_ok q (by omega)) rfl rfl rfl rfl ?_
                (refine Ops.assign rfl rfl rfl ?_; refine Ops.nil (hK _ _ ?_); clear hK K; refine Fin.blockN ?_; refine Fin.blockN ?_; refine Fin.thenN ?_)
                refine Fin.next (p, q / 2) (by dsimp only; omega) ⟨hpa, by dsimp only; omega, by dsimp only; omega, by dsimp only; rw [Nat.gcd_comm, q1, Nat.gcd_comm]; exact hg⟩ (by exact Entails.of rfl ⟨rfl, rfl, rfl, trivial⟩)
              · (refine St.seq ?_; refine St.regionK (fun K hK => ?_); refine Ops.move rfl rfl rfl ?_; refine Ops.move rfl rfl rfl ?_)
                refine Ops.call gorCompare (rCompare_ok p q (by omega) (by omega)) rfl rfl rfl rfl ?_
                (refine Ops.ibin igeq rfl rfl rfl rfl ?_; refine Ops.assign rfl rfl rfl ?_; refine Ops.nil (hK _ _ ?_); clear hK K; refine Fin.then ?_)
                refine St.condP rfl (fun g9 => ?_) (fun g9 => ?_)
                · have hle : q ≤ p := by have := cmpI_neg (a := p) (b := q); omega
                  have q1 := gcd_less hle
                  (refine St.regionK (fun K hK => ?_); refine Ops.move rfl rfl rfl ?_; refine Ops.move rfl rfl rfl ?_)
                  refine Ops.call gorLess (rLess_ok p q hle (by omega)) rfl rfl rfl rfl ?_
                  (refine Ops.assign rfl rfl rfl ?_; refine Ops.nil (hK _ _ ?_); clear hK K; refine Fin.blockN ?_; refine Fin.blockN ?_; refine Fin.thenN ?_)
                  refine Fin.next (p - q, q) (by dsimp only; omega) ⟨by dsimp only; omega, hqb, by dsimp only; omega, by dsimp only; rw [q1]; exact hg⟩ (by exact Entails.of rfl ⟨rfl, rfl, rfl, trivial⟩)
                · have hle : p ≤ q := by have := cmpI_neg (a := p) (b := q); omega
                  have q1 := gcd_less hle
                  (refine St.regionK (fun K hK => ?_); refine Ops.move rfl rfl rfl ?_; refine Ops.move rfl rfl rfl ?_)
                  refine Ops.call gorLess (rLess_ok q p hle (by omega)) rfl rfl rfl rfl ?_
                  (refine Ops.assign rfl rfl rfl ?_; refine Ops.nil (hK _ _ ?_); clear hK K; refine Fin.blockN ?_; refine Fin.blockN ?_; refine Fin.thenN ?_)
                  refine Fin.next (p, q - p) (by dsimp only; omega) ⟨hpa, by dsimp only; omega, by dsimp only; omega, by dsimp only; rw [Nat.gcd_comm, q1, Nat.gcd_comm]; exact hg⟩ (by exact Entails.of rfl ⟨rfl, rfl, rfl, trivial⟩)
          · have hd := done (.inr (limbs_nil (List.eq_nil_of_length_eq_zero (by omega))))
            (refine St.exit ?_; refine Fin.then ?_; refine St.seq ?_; refine St.regionK (fun K hK => ?_); refine Ops.move rfl rfl rfl ?_; refine Ops.move rfl rfl rfl ?_; refine Ops.move rfl rfl rfl ?_)
            refine Ops.call gorPlus (rPlus_ok p q (by omega) (by omega)) rfl rfl rfl rfl ?_
            refine Ops.call gorTimes (rTimes_ok u (p + q) (by omega)) rfl rfl rfl rfl ?_
            (refine Ops.assign rfl rfl rfl ?_; refine Ops.nil (hK _ _ ?_); clear hK K; refine Fin.then ?_; refine St.ret ?_)
            refine Fin.ret [_] rfl (AllRes.tmp rfl AllRes.nil) (by rw [hd]; rfl) rfl
        · have hd := done (.inl (limbs_nil (List.eq_nil_of_length_eq_zero (by omega))))
          (refine Ops.skip rfl rfl rfl ?_; refine Ops.skip rfl rfl rfl ?_; refine Ops.skip rfl rfl rfl ?_; refine Ops.pickF rfl rfl rfl rfl ?_; refine Ops.nil (hK _ _ ?_); clear hK K; refine Fin.then ?_; refine St.condF rfl ?_; refine St.exit ?_; refine Fin.then ?_; refine St.seq ?_; refine St.regionK (fun K hK => ?_); refine Ops.move rfl rfl rfl ?_; refine Ops.move rfl rfl rfl ?_; refine Ops.move rfl rfl rfl ?_)
          refine Ops.call gorPlus (rPlus_ok p q (by omega) (by omega)) rfl rfl rfl rfl ?_
          refine Ops.call gorTimes (rTimes_ok u (p + q) (by omega)) rfl rfl rfl rfl ?_
          (refine Ops.assign rfl rfl rfl ?_; refine Ops.nil (hK _ _ ?_); clear hK K; refine Fin.then ?_; refine St.ret ?_)
          refine Fin.ret [_] rfl (AllRes.tmp rfl AllRes.nil) (by rw [hd]; rfl) rfl
theorem gorGcd : InGo Try.prog 66 := InGo.of Try.func66 (by kernel_rfl) (by kernel_rfl)

end Go.Proofs.Ytgpkpmhdfcopgaa
