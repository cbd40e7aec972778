/-
  Walk: dice.Claims.
-/
import Derived.Test.YtkeoejfbbmdloaaV10
namespace Go.Proofs.Ytkeoejfbbmdloaa
open Go.Own
attribute [local irreducible] St Ops Go.Own.Fin Ok OkB OkN OkT OkL OkF wpR

theorem mem_snocC {P : Cl → Prop} {xs : List Cl} {x : Cl} (h : ∀ y ∈ xs, P y) (hx : P x) : ∀ y ∈ xs ++ [x], P y := fun y hy => by
  rcases List.mem_append.1 hy with h1 | h1
  · exact h y h1
  · rcases List.mem_singleton.1 h1 with rfl; exact hx
theorem goClaims : InGo Try.prog 8 := InGo.of Try.func8 rfl (by decide)
set_option maxHeartbeats 8000000 in
theorem Claims_ok (bs : List Int) (p : Nat) (most : Int) (h0 : 0 ≤ most) (h1 : most ≤ 100) (hb : Bytes bs) : OkB Try.prog 8 69 (codes bs p) [intC most] (fun q : List Cl × Nat => (q.1.length : Int) ≤ most ∧ ∀ c ∈ q.1, U c) (fun q => clsC q.1) (fun q => codes bs q.2) := by
  refine OkB.enter Try.func8 rfl _ Try.ntmps8 rfl ?_
  intro S w g
  (refine St.seq ?_; refine St.regionK (fun K hK => ?_); refine Ops.assign rfl rfl rfl ?_; refine Ops.nil (hK _ _ ?_); clear hK K; refine Fin.then ?_; refine St.seq ?_; refine St.regionK (fun K hK => ?_); refine Ops.assign rfl rfl rfl ?_; refine Ops.nil (hK _ _ ?_); clear hK K; refine Fin.then ?_; refine St.seq ?_; refine St.seq ?_; refine St.regionK (fun K hK => ?_); refine Ops.move rfl rfl rfl ?_; refine Ops.move rfl rfl rfl ?_; refine Ops.ibin (iadd (by omega) (by omega)) rfl rfl rfl rfl ?_)
  refine Ops.callB goNext (Next_ok bs p (most + 1) (by omega) (by omega) hb) rfl rfl rfl rfl rfl (fun q hq => ?_)
  obtain ⟨k0, p1⟩ := q
  dsimp only at hq ⊢
  (refine Ops.assign rfl rfl rfl ?_; refine Ops.nil (hK _ _ ?_); clear hK K; refine Fin.then ?_; refine St.block ?_)
  refine St.nilRow 5 1 52 7 rfl rfl rfl ?_
  refine St.loop (α := Int × List Cl × Nat) (fun x => 0 ≤ x.1 ∧ x.2.1.length + x.1 ≤ most ∧ ∀ c ∈ x.2.1, U c)
    (fun x => [(0, .own 0), (5, .own 1), (6, .ct (intC x.1))]) (fun x => [(1, .row 52 7 (cls x.2.1)), (0, .box 69 (codes bs x.2.2))]) (fun x => x.1.toNat) (k0, [], p1) ⟨by omega, by simp; omega, by simp⟩ (by exact Entails.of rfl ⟨rfl, rfl, rfl, trivial⟩) ?_
  rintro ⟨k, out, p2⟩ ⟨hk0, hkl, hout⟩
  dsimp only at hk0 hkl hout ⊢
  (refine St.seq ?_; refine St.seq ?_; refine St.regionK (fun K hK => ?_); refine Ops.move rfl rfl rfl ?_; refine Ops.ibin igtr rfl rfl rfl rfl ?_; refine Ops.nil (hK _ _ ?_); clear hK K; refine Fin.then ?_)
  refine St.condP rfl (fun hk => ?_) (fun hk => ?_)
  · (refine St.skip ?_; refine Fin.then ?_; refine St.seq ?_; refine St.block ?_; refine St.seq ?_; refine St.regionK (fun K hK => ?_); refine Ops.move rfl rfl rfl ?_)
    refine Ops.callB goEvidence (Evidence_ok bs p2 hb) rfl rfl rfl rfl rfl (fun e he => ?_)
    unfold EvIn at he
    have u0 : 0 ≤ e.a := he.1
    have u1 : e.a < 4294967296 := by omega
    have u2 : 0 ≤ e.b := by omega
    have u3 : e.b < 4294967296 := by omega
    generalize hq0 : e.p = q0
    (refine Ops.alloc 2 rfl rfl (by with_reducible exact zvEv) rfl rfl rfl ?_; refine Ops.stWN 4 rfl rfl rfl rfl rfl (by with_reducible first | exact szAtlas | exact szEv) rfl rfl ?_; refine Ops.nil (hK _ _ ?_); clear hK K; refine Fin.then ?_; refine St.seq ?_)
    refine St.drawR (by with_reducible exact mixed) 17 (.p 0 (.p 3 (.p 5 (.p 7 (.p 9 (.p 11 (.p 13 (.f 4 (.f 6 (.fork 1 (.p 2 (.fork 8 (.fork 10 (.fork 12 (.fork 14 (.p 15 (.m 16 (.a 17 .done))) 16 (.m 14 (.p 15 (.a 17 .done)))) 16 (.m 12 (.m 14 (.p 15 (.a 17 .done))))) 16 (.m 10 (.m 12 (.m 14 (.p 15 (.a 17 .done)))))) 16 (.m 8 (.m 10 (.m 12 (.m 14 (.p 15 (.a 17 .done)))))))) 16 (.m 1 (.p 2 (.m 8 (.m 10 (.m 12 (.m 14 (.p 15 (.a 17 .done)))))))))))))))))) (by kernel_rfl) (fun K hK => ?_)
    refine (fun (cont : ∀ x : Cl × Nat, U x.1 → Go.Own.Fin _ [(0, .own 0), (5, .own 1), (6, .ct (intC k)), (8, .own 3)] [(3, .box 52 (clCs x.1)), (2, .box 60 (evCs e)), (1, .row 52 7 (cls out)), (0, .box 69 (codes bs x.2))] K) => ?_) (fun x hx => hK _ _ ?_)
    rotate_left
    · clear hK K
      obtain ⟨⟨ck, ca, cb, clo, chi, ct, cs⟩, p3⟩ := x
      obtain ⟨v0, v1, v2, v3⟩ := hx
      dsimp only at v0 v1 v2 v3 ⊢
      (refine Fin.then ?_; refine St.seq ?_; refine St.seq ?_; refine St.regionK (fun K hK => ?_); refine Ops.move rfl rfl rfl ?_)
      refine Ops.callB goNext (Next_ok bs p3 12 (by decide) (by decide) hb) rfl rfl rfl rfl rfl (fun q hq3 => ?_)
      obtain ⟨sw, p4⟩ := q
      dsimp only at hq3 ⊢
      (refine Ops.nil (hK _ _ ?_); clear hK K; refine Fin.then ?_; refine St.block ?_; refine St.seq ?_; refine St.regionK (fun K hK => ?_); refine Ops.ibin ieql rfl rfl rfl rfl ?_; refine Ops.assign rfl rfl rfl ?_; refine Ops.nil (hK _ _ ?_); clear hK K; refine Fin.then ?_)
      refine St.condP rfl (fun s1 => ?_) (fun s1 => ?_)
      · (refine St.regionK (fun K hK => ?_); refine Ops.fldO rfl rfl rfl (by with_reducible first | exact fK0 | exact fK1 | exact fK2 | exact fK3 | exact fK4 | exact fK5 | exact fK6 | exact fE0 | exact fE1 | exact fE2 | exact fE3 | exact fA0 | exact fD0 | exact fD1) rfl ?_; refine Ops.st1A rfl rfl rfl rfl rfl (by with_reducible first | exact zInt | exact zAddr | exact zClaims) (Nat.le_of_ble_eq_true rfl) ?_; refine Ops.nil (hK _ _ ?_); clear hK K; refine Fin.then ?_; refine St.regionK (fun K hK => ?_); refine Ops.move rfl rfl rfl ?_; refine Ops.ldNO (n := 7) rfl rfl rfl rfl rfl (by with_reducible exact lClaim) rfl ?_)
        refine Ops.litN (n := 7) rfl rfl (by with_reducible exact sClaims) rfl rfl (by decide) rfl ?_
        refine Ops.append1 out.length (cls (out ++ [⟨ck, 0, cb, clo, chi, ct, cs⟩])) rfl rfl rfl rfl (by with_reducible exact sClaims) (cls_len out) rfl (by omega) (by omega) (cls_snoc out ⟨ck, 0, cb, clo, chi, ct, cs⟩) rfl ?_
        (refine Ops.assign rfl rfl rfl ?_; refine Ops.nil (hK _ _ ?_); clear hK K; refine Fin.then ?_; refine St.regionK (fun K hK => ?_); refine Ops.move rfl rfl rfl ?_; refine Ops.ibin (isub (by omega) (by omega)) rfl rfl rfl rfl ?_; refine Ops.assign rfl rfl rfl ?_; refine Ops.nil (hK _ _ ?_); clear hK K; refine Fin.thenN ?_)
        refine Fin.dropB 3 ?_
        refine Fin.dropB 2 ?_
        refine Fin.next (k - 1, out ++ [⟨ck, 0, cb, clo, chi, ct, cs⟩], p4) (by dsimp only; omega) ⟨by dsimp only; omega, by simp; omega, mem_snocC hout ⟨by dsimp only; omega, by dsimp only; omega, by dsimp only; omega, by dsimp only; omega⟩⟩ (by exact Entails.of rfl ⟨rfl, rfl, rfl, trivial⟩)
      · (refine St.seq ?_; refine St.regionK (fun K hK => ?_); refine Ops.ibin ieql rfl rfl rfl rfl ?_; refine Ops.assign rfl rfl rfl ?_; refine Ops.nil (hK _ _ ?_); clear hK K; refine Fin.then ?_)
        refine St.condP rfl (fun s2 => ?_) (fun s2 => ?_)
        · (refine St.regionK (fun K hK => ?_); refine Ops.fldO rfl rfl rfl (by with_reducible first | exact fK0 | exact fK1 | exact fK2 | exact fK3 | exact fK4 | exact fK5 | exact fK6 | exact fE0 | exact fE1 | exact fE2 | exact fE3 | exact fA0 | exact fD0 | exact fD1) rfl ?_; refine Ops.ld1A rfl rfl rfl rfl rfl (by with_reducible first | exact lInt | exact lAddr | exact lAssume | exact lClaims | exact lIDs) rfl ?_; refine Ops.fldO rfl rfl rfl (by with_reducible first | exact fK0 | exact fK1 | exact fK2 | exact fK3 | exact fK4 | exact fK5 | exact fK6 | exact fE0 | exact fE1 | exact fE2 | exact fE3 | exact fA0 | exact fD0 | exact fD1) rfl ?_; refine Ops.ld1A rfl rfl rfl rfl rfl (by with_reducible first | exact lInt | exact lAddr | exact lAssume | exact lClaims | exact lIDs) rfl ?_; refine Ops.fldO rfl rfl rfl (by with_reducible first | exact fK0 | exact fK1 | exact fK2 | exact fK3 | exact fK4 | exact fK5 | exact fK6 | exact fE0 | exact fE1 | exact fE2 | exact fE3 | exact fA0 | exact fD0 | exact fD1) rfl ?_; refine Ops.st1A rfl rfl rfl rfl rfl (by with_reducible first | exact zInt | exact zAddr | exact zClaims) (Nat.le_of_ble_eq_true rfl) ?_; refine Ops.fldO rfl rfl rfl (by with_reducible first | exact fK0 | exact fK1 | exact fK2 | exact fK3 | exact fK4 | exact fK5 | exact fK6 | exact fE0 | exact fE1 | exact fE2 | exact fE3 | exact fA0 | exact fD0 | exact fD1) rfl ?_; refine Ops.st1A rfl rfl rfl rfl rfl (by with_reducible first | exact zInt | exact zAddr | exact zClaims) (Nat.le_of_ble_eq_true rfl) ?_; refine Ops.nil (hK _ _ ?_); clear hK K; refine Fin.then ?_; refine St.regionK (fun K hK => ?_); refine Ops.move rfl rfl rfl ?_; refine Ops.ldNO (n := 7) rfl rfl rfl rfl rfl (by with_reducible exact lClaim) rfl ?_)
          refine Ops.litN (n := 7) rfl rfl (by with_reducible exact sClaims) rfl rfl (by decide) rfl ?_
          refine Ops.append1 out.length (cls (out ++ [⟨ck, cb, ca, clo, chi, ct, cs⟩])) rfl rfl rfl rfl (by with_reducible exact sClaims) (cls_len out) rfl (by omega) (by omega) (cls_snoc out ⟨ck, cb, ca, clo, chi, ct, cs⟩) rfl ?_
          (refine Ops.assign rfl rfl rfl ?_; refine Ops.nil (hK _ _ ?_); clear hK K; refine Fin.then ?_; refine St.regionK (fun K hK => ?_); refine Ops.move rfl rfl rfl ?_; refine Ops.ibin (isub (by omega) (by omega)) rfl rfl rfl rfl ?_; refine Ops.assign rfl rfl rfl ?_; refine Ops.nil (hK _ _ ?_); clear hK K; refine Fin.thenN ?_)
          refine Fin.dropB 3 ?_
          refine Fin.dropB 2 ?_
          refine Fin.next (k - 1, out ++ [⟨ck, cb, ca, clo, chi, ct, cs⟩], p4) (by dsimp only; omega) ⟨by dsimp only; omega, by simp; omega, mem_snocC hout ⟨by dsimp only; omega, by dsimp only; omega, by dsimp only; omega, by dsimp only; omega⟩⟩ (by exact Entails.of rfl ⟨rfl, rfl, rfl, trivial⟩)
        · (refine St.seq ?_; refine St.regionK (fun K hK => ?_); refine Ops.ibin ieql rfl rfl rfl rfl ?_; refine Ops.assign rfl rfl rfl ?_; refine Ops.nil (hK _ _ ?_); clear hK K; refine Fin.then ?_)
          refine St.condP rfl (fun s3 => ?_) (fun s3 => ?_)
          · (refine St.regionK (fun K hK => ?_); refine Ops.move rfl rfl rfl ?_)
            refine Ops.lit (m := 3) (cs := ints [-1, 2251799813685248, 2251799813685249]) rfl rfl (by with_reducible exact sInts) (.one rfl rfl rfl rfl (.one rfl rfl rfl rfl (.one rfl rfl rfl rfl .nil))) (by decide) rfl ?_
            refine Ops.callB goPick (Pick_ok bs p4 [-1, 2251799813685248, 2251799813685249] (by decide) (by decide) hb) rfl rfl rfl rfl rfl (fun q _ => ?_)
            obtain ⟨lo', p5⟩ := q
            dsimp only
            (refine Ops.fldO rfl rfl rfl (by with_reducible first | exact fK0 | exact fK1 | exact fK2 | exact fK3 | exact fK4 | exact fK5 | exact fK6 | exact fE0 | exact fE1 | exact fE2 | exact fE3 | exact fA0 | exact fD0 | exact fD1) rfl ?_; refine Ops.st1A rfl rfl rfl rfl rfl (by with_reducible first | exact zInt | exact zAddr | exact zClaims) (Nat.le_of_ble_eq_true rfl) ?_; refine Ops.nil (hK _ _ ?_); clear hK K; refine Fin.then ?_; refine St.regionK (fun K hK => ?_); refine Ops.move rfl rfl rfl ?_; refine Ops.ldNO (n := 7) rfl rfl rfl rfl rfl (by with_reducible exact lClaim) rfl ?_)
            refine Ops.litN (n := 7) rfl rfl (by with_reducible exact sClaims) rfl rfl (by decide) rfl ?_
            refine Ops.append1 out.length (cls (out ++ [⟨ck, ca, cb, lo', chi, ct, cs⟩])) rfl rfl rfl rfl (by with_reducible exact sClaims) (cls_len out) rfl (by omega) (by omega) (cls_snoc out ⟨ck, ca, cb, lo', chi, ct, cs⟩) rfl ?_
            (refine Ops.assign rfl rfl rfl ?_; refine Ops.nil (hK _ _ ?_); clear hK K; refine Fin.then ?_; refine St.regionK (fun K hK => ?_); refine Ops.move rfl rfl rfl ?_; refine Ops.ibin (isub (by omega) (by omega)) rfl rfl rfl rfl ?_; refine Ops.assign rfl rfl rfl ?_; refine Ops.nil (hK _ _ ?_); clear hK K; refine Fin.thenN ?_)
            refine Fin.dropB 3 ?_
            refine Fin.dropB 2 ?_
            refine Fin.next (k - 1, out ++ [⟨ck, ca, cb, lo', chi, ct, cs⟩], p5) (by dsimp only; omega) ⟨by dsimp only; omega, by simp; omega, mem_snocC hout ⟨by dsimp only; omega, by dsimp only; omega, by dsimp only; omega, by dsimp only; omega⟩⟩ (by exact Entails.of rfl ⟨rfl, rfl, rfl, trivial⟩)
          · (refine St.skip ?_; refine Fin.then ?_; refine St.regionK (fun K hK => ?_); refine Ops.move rfl rfl rfl ?_; refine Ops.ldNO (n := 7) rfl rfl rfl rfl rfl (by with_reducible exact lClaim) rfl ?_)
            refine Ops.litN (n := 7) rfl rfl (by with_reducible exact sClaims) rfl rfl (by decide) rfl ?_
            refine Ops.append1 out.length (cls (out ++ [⟨ck, ca, cb, clo, chi, ct, cs⟩])) rfl rfl rfl rfl (by with_reducible exact sClaims) (cls_len out) rfl (by omega) (by omega) (cls_snoc out ⟨ck, ca, cb, clo, chi, ct, cs⟩) rfl ?_
            (refine Ops.assign rfl rfl rfl ?_; refine Ops.nil (hK _ _ ?_); clear hK K; refine Fin.then ?_; refine St.regionK (fun K hK => ?_); refine Ops.move rfl rfl rfl ?_; refine Ops.ibin (isub (by omega) (by omega)) rfl rfl rfl rfl ?_; refine Ops.assign rfl rfl rfl ?_; refine Ops.nil (hK _ _ ?_); clear hK K; refine Fin.thenN ?_)
            refine Fin.dropB 3 ?_
            refine Fin.dropB 2 ?_
            refine Fin.next (k - 1, out ++ [⟨ck, ca, cb, clo, chi, ct, cs⟩], p4) (by dsimp only; omega) ⟨by dsimp only; omega, by simp; omega, mem_snocC hout ⟨by dsimp only; omega, by dsimp only; omega, by dsimp only; omega, by dsimp only; omega⟩⟩ (by exact Entails.of rfl ⟨rfl, rfl, rfl, trivial⟩)
    refine Fin.rp ?_
    (refine Ops.move rfl rfl rfl ?_)
    refine Ops.nil ?_
    refine Fin.rp ?_
    (refine Ops.fldO rfl rfl rfl (by with_reducible first | exact fK0 | exact fK1 | exact fK2 | exact fK3 | exact fK4 | exact fK5 | exact fK6 | exact fE0 | exact fE1 | exact fE2 | exact fE3 | exact fA0 | exact fD0 | exact fD1) rfl ?_)
    refine Ops.nil ?_
    refine Fin.rp ?_
    (refine Ops.fldO rfl rfl rfl (by with_reducible first | exact fK0 | exact fK1 | exact fK2 | exact fK3 | exact fK4 | exact fK5 | exact fK6 | exact fE0 | exact fE1 | exact fE2 | exact fE3 | exact fA0 | exact fD0 | exact fD1) rfl ?_)
    refine Ops.nil ?_
    refine Fin.rp ?_
    (refine Ops.move rfl rfl rfl ?_)
    refine Ops.nil ?_
    refine Fin.rp ?_
    (refine Ops.move rfl rfl rfl ?_)
    refine Ops.nil ?_
    refine Fin.rp ?_
    (refine Ops.move rfl rfl rfl ?_)
    refine Ops.nil ?_
    refine Fin.rp ?_
    (refine Ops.move rfl rfl rfl ?_)
    refine Ops.nil ?_
    refine Fin.rfA rfl rfl rfl rfl rfl (by with_reducible exact lAddr) (notBor_lent rfl) rfl ?_
    refine Fin.rfA rfl rfl rfl rfl rfl (by with_reducible exact lAddr) (notBor_lent rfl) rfl ?_
    refine Fin.rfork ?_ ?_
    · refine Fin.rmB rfl goNext (Next_ok bs q0 6 (by decide) (by decide) hb) rfl rfl rfl rfl rfl (fun y hy0 => ?_)
      obtain ⟨x1, q1⟩ := y
      dsimp only at hy0 ⊢
      refine Fin.rp ?_
      (refine Ops.ibin (iadd (by omega) (by omega)) rfl rfl rfl rfl ?_)
      refine Ops.nil ?_
      refine Fin.rfork ?_ ?_
      · refine Fin.rmB rfl goNext (Next_ok bs q1 4 (by decide) (by decide) hb) rfl rfl rfl rfl rfl (fun y hy1 => ?_)
        obtain ⟨x2, q2⟩ := y
        dsimp only at hy1 ⊢
        refine Fin.rfork ?_ ?_
        · refine Fin.rmB rfl goNext (Next_ok bs q2 4 (by decide) (by decide) hb) rfl rfl rfl rfl rfl (fun y hy2 => ?_)
          obtain ⟨x3, q3⟩ := y
          dsimp only at hy2 ⊢
          refine Fin.rfork ?_ ?_
          · refine Fin.rmB rfl goNext (Next_ok bs q3 3 (by decide) (by decide) hb) rfl rfl rfl rfl rfl (fun y hy3 => ?_)
            obtain ⟨x4, q4⟩ := y
            dsimp only at hy3 ⊢
            refine Fin.rfork ?_ ?_
            · refine Fin.rmB rfl goNext (Next_ok bs q4 4 (by decide) (by decide) hb) rfl rfl rfl rfl rfl (fun y hy4 => ?_)
              obtain ⟨x5, q5⟩ := y
              dsimp only at hy4 ⊢
              refine Fin.rp ?_
              refine Ops.build rfl (by with_reducible exact bClaim) rfl (.one rfl rfl rfl rfl (.one rfl rfl rfl rfl (.one rfl rfl rfl rfl (.one rfl rfl rfl rfl (.one rfl rfl rfl rfl (.one rfl rfl rfl rfl (.one rfl rfl rfl rfl .nil))))))) rfl ?_
              refine Ops.nil ?_
              refine Fin.rm ?_
              refine Ops.alloc 3 rfl rfl (by with_reducible exact zvClaim) rfl rfl rfl ?_
              refine Ops.nil ?_
              refine Fin.ra ?_
              refine Ops.stWN 7 rfl rfl rfl rfl rfl (by with_reducible exact szClaim) rfl rfl ?_
              refine Ops.nil ?_
              refine Fin.rdone ?_
              exact Fin.fam cont ⟨⟨1 + x1, e.a, e.b, x2, x3, x4, x5⟩, q5⟩ ⟨u0, u1, u2, u3⟩ (by exact Entails.of rfl ⟨rfl, rfl, rfl, rfl, trivial⟩)
            · refine Fin.rm ?_
              refine Ops.alloc 3 rfl rfl (by with_reducible exact zvClaim) rfl rfl rfl ?_
              refine Ops.nil ?_
              refine Fin.rmB rfl goNext (Next_ok bs q4 4 (by decide) (by decide) hb) rfl rfl rfl rfl rfl (fun y hy4 => ?_)
              obtain ⟨x5, q5⟩ := y
              dsimp only at hy4 ⊢
              refine Fin.rp ?_
              refine Ops.build rfl (by with_reducible exact bClaim) rfl (.one rfl rfl rfl rfl (.one rfl rfl rfl rfl (.one rfl rfl rfl rfl (.one rfl rfl rfl rfl (.one rfl rfl rfl rfl (.one rfl rfl rfl rfl (.one rfl rfl rfl rfl .nil))))))) rfl ?_
              refine Ops.nil ?_
              refine Fin.ra ?_
              refine Ops.stWN 7 rfl rfl rfl rfl rfl (by with_reducible exact szClaim) rfl rfl ?_
              refine Ops.nil ?_
              refine Fin.rdone ?_
              exact Fin.fam cont ⟨⟨1 + x1, e.a, e.b, x2, x3, x4, x5⟩, q5⟩ ⟨u0, u1, u2, u3⟩ (by exact Entails.of rfl ⟨rfl, rfl, rfl, rfl, trivial⟩)
          · refine Fin.rm ?_
            refine Ops.alloc 3 rfl rfl (by with_reducible exact zvClaim) rfl rfl rfl ?_
            refine Ops.nil ?_
            refine Fin.rmB rfl goNext (Next_ok bs q3 3 (by decide) (by decide) hb) rfl rfl rfl rfl rfl (fun y hy3 => ?_)
            obtain ⟨x4, q4⟩ := y
            dsimp only at hy3 ⊢
            refine Fin.rmB rfl goNext (Next_ok bs q4 4 (by decide) (by decide) hb) rfl rfl rfl rfl rfl (fun y hy4 => ?_)
            obtain ⟨x5, q5⟩ := y
            dsimp only at hy4 ⊢
            refine Fin.rp ?_
            refine Ops.build rfl (by with_reducible exact bClaim) rfl (.one rfl rfl rfl rfl (.one rfl rfl rfl rfl (.one rfl rfl rfl rfl (.one rfl rfl rfl rfl (.one rfl rfl rfl rfl (.one rfl rfl rfl rfl (.one rfl rfl rfl rfl .nil))))))) rfl ?_
            refine Ops.nil ?_
            refine Fin.ra ?_
            refine Ops.stWN 7 rfl rfl rfl rfl rfl (by with_reducible exact szClaim) rfl rfl ?_
            refine Ops.nil ?_
            refine Fin.rdone ?_
            exact Fin.fam cont ⟨⟨1 + x1, e.a, e.b, x2, x3, x4, x5⟩, q5⟩ ⟨u0, u1, u2, u3⟩ (by exact Entails.of rfl ⟨rfl, rfl, rfl, rfl, trivial⟩)
        · refine Fin.rm ?_
          refine Ops.alloc 3 rfl rfl (by with_reducible exact zvClaim) rfl rfl rfl ?_
          refine Ops.nil ?_
          refine Fin.rmB rfl goNext (Next_ok bs q2 4 (by decide) (by decide) hb) rfl rfl rfl rfl rfl (fun y hy2 => ?_)
          obtain ⟨x3, q3⟩ := y
          dsimp only at hy2 ⊢
          refine Fin.rmB rfl goNext (Next_ok bs q3 3 (by decide) (by decide) hb) rfl rfl rfl rfl rfl (fun y hy3 => ?_)
          obtain ⟨x4, q4⟩ := y
          dsimp only at hy3 ⊢
          refine Fin.rmB rfl goNext (Next_ok bs q4 4 (by decide) (by decide) hb) rfl rfl rfl rfl rfl (fun y hy4 => ?_)
          obtain ⟨x5, q5⟩ := y
          dsimp only at hy4 ⊢
          refine Fin.rp ?_
          refine Ops.build rfl (by with_reducible exact bClaim) rfl (.one rfl rfl rfl rfl (.one rfl rfl rfl rfl (.one rfl rfl rfl rfl (.one rfl rfl rfl rfl (.one rfl rfl rfl rfl (.one rfl rfl rfl rfl (.one rfl rfl rfl rfl .nil))))))) rfl ?_
          refine Ops.nil ?_
          refine Fin.ra ?_
          refine Ops.stWN 7 rfl rfl rfl rfl rfl (by with_reducible exact szClaim) rfl rfl ?_
          refine Ops.nil ?_
          refine Fin.rdone ?_
          exact Fin.fam cont ⟨⟨1 + x1, e.a, e.b, x2, x3, x4, x5⟩, q5⟩ ⟨u0, u1, u2, u3⟩ (by exact Entails.of rfl ⟨rfl, rfl, rfl, rfl, trivial⟩)
      · refine Fin.rm ?_
        refine Ops.alloc 3 rfl rfl (by with_reducible exact zvClaim) rfl rfl rfl ?_
        refine Ops.nil ?_
        refine Fin.rmB rfl goNext (Next_ok bs q1 4 (by decide) (by decide) hb) rfl rfl rfl rfl rfl (fun y hy1 => ?_)
        obtain ⟨x2, q2⟩ := y
        dsimp only at hy1 ⊢
        refine Fin.rmB rfl goNext (Next_ok bs q2 4 (by decide) (by decide) hb) rfl rfl rfl rfl rfl (fun y hy2 => ?_)
        obtain ⟨x3, q3⟩ := y
        dsimp only at hy2 ⊢
        refine Fin.rmB rfl goNext (Next_ok bs q3 3 (by decide) (by decide) hb) rfl rfl rfl rfl rfl (fun y hy3 => ?_)
        obtain ⟨x4, q4⟩ := y
        dsimp only at hy3 ⊢
        refine Fin.rmB rfl goNext (Next_ok bs q4 4 (by decide) (by decide) hb) rfl rfl rfl rfl rfl (fun y hy4 => ?_)
        obtain ⟨x5, q5⟩ := y
        dsimp only at hy4 ⊢
        refine Fin.rp ?_
        refine Ops.build rfl (by with_reducible exact bClaim) rfl (.one rfl rfl rfl rfl (.one rfl rfl rfl rfl (.one rfl rfl rfl rfl (.one rfl rfl rfl rfl (.one rfl rfl rfl rfl (.one rfl rfl rfl rfl (.one rfl rfl rfl rfl .nil))))))) rfl ?_
        refine Ops.nil ?_
        refine Fin.ra ?_
        refine Ops.stWN 7 rfl rfl rfl rfl rfl (by with_reducible exact szClaim) rfl rfl ?_
        refine Ops.nil ?_
        refine Fin.rdone ?_
        exact Fin.fam cont ⟨⟨1 + x1, e.a, e.b, x2, x3, x4, x5⟩, q5⟩ ⟨u0, u1, u2, u3⟩ (by exact Entails.of rfl ⟨rfl, rfl, rfl, rfl, trivial⟩)
    · refine Fin.rm ?_
      refine Ops.alloc 3 rfl rfl (by with_reducible exact zvClaim) rfl rfl rfl ?_
      refine Ops.nil ?_
      refine Fin.rmB rfl goNext (Next_ok bs q0 6 (by decide) (by decide) hb) rfl rfl rfl rfl rfl (fun y hy0 => ?_)
      obtain ⟨x1, q1⟩ := y
      dsimp only at hy0 ⊢
      refine Fin.rp ?_
      (refine Ops.ibin (iadd (by omega) (by omega)) rfl rfl rfl rfl ?_)
      refine Ops.nil ?_
      refine Fin.rmB rfl goNext (Next_ok bs q1 4 (by decide) (by decide) hb) rfl rfl rfl rfl rfl (fun y hy1 => ?_)
      obtain ⟨x2, q2⟩ := y
      dsimp only at hy1 ⊢
      refine Fin.rmB rfl goNext (Next_ok bs q2 4 (by decide) (by decide) hb) rfl rfl rfl rfl rfl (fun y hy2 => ?_)
      obtain ⟨x3, q3⟩ := y
      dsimp only at hy2 ⊢
      refine Fin.rmB rfl goNext (Next_ok bs q3 3 (by decide) (by decide) hb) rfl rfl rfl rfl rfl (fun y hy3 => ?_)
      obtain ⟨x4, q4⟩ := y
      dsimp only at hy3 ⊢
      refine Fin.rmB rfl goNext (Next_ok bs q4 4 (by decide) (by decide) hb) rfl rfl rfl rfl rfl (fun y hy4 => ?_)
      obtain ⟨x5, q5⟩ := y
      dsimp only at hy4 ⊢
      refine Fin.rp ?_
      refine Ops.build rfl (by with_reducible exact bClaim) rfl (.one rfl rfl rfl rfl (.one rfl rfl rfl rfl (.one rfl rfl rfl rfl (.one rfl rfl rfl rfl (.one rfl rfl rfl rfl (.one rfl rfl rfl rfl (.one rfl rfl rfl rfl .nil))))))) rfl ?_
      refine Ops.nil ?_
      refine Fin.ra ?_
      refine Ops.stWN 7 rfl rfl rfl rfl rfl (by with_reducible exact szClaim) rfl rfl ?_
      refine Ops.nil ?_
      refine Fin.rdone ?_
      exact Fin.fam cont ⟨⟨1 + x1, e.a, e.b, x2, x3, x4, x5⟩, q5⟩ ⟨u0, u1, u2, u3⟩ (by exact Entails.of rfl ⟨rfl, rfl, rfl, rfl, trivial⟩)
  · refine St.frz 1 _ rfl (cls_frozen _ _) (okFix_lent rfl) ?_
    (refine St.exit ?_; refine Fin.then ?_; refine St.seq ?_; refine St.regionK (fun K hK => ?_); refine Ops.move rfl rfl rfl ?_; refine Ops.assign rfl rfl rfl ?_; refine Ops.nil (hK _ _ ?_); clear hK K; refine Fin.then ?_; refine St.ret ?_)
    refine Fin.retB (out, p2) [_] rfl (AllRes.tmp rfl AllRes.nil) rfl rfl ⟨by show (out.length : Int) ≤ most; omega, hout⟩
end Go.Proofs.Ytkeoejfbbmdloaa
