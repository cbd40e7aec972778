/- The proof that FarkasChecks holds for every input, without conditions: part 6 of 6. -/
import Derived.Test.YtdhmbgogmoaofaaGreatZ5
import Derived.ProofKit
import Derived.OpenShut
import Derived.ShutString
import Derived.ChangeOld
import Derived.Below
import Derived.DataElems
import Derived.Test.YtdhmbgogmoaofaaGreatRows
namespace Go.Proofs.YtdhmbgogmoaofaaGreat
open Go.Own Go.Limbs
attribute [local irreducible] St Ops Go.Own.Fin Ok
attribute [local irreducible] OkB OkM OkN wpA
attribute [local irreducible] tf
def OkZ (z : List Rf) : Prop := z.length ≤ 6 ∧ ∀ f ∈ z, Sm f
structure OkO (O : Ro) : Prop where
  v : Sm O.value
  p : OkZ O.point
  r : OkZ O.ray
  d : OkZ O.dual
theorem OkO.inO {O : Ro} (h : OkO O) {p : List Rw} (hl : p.length ≤ 6) (hr : ∀ r ∈ p, r.cs.length < 4611686018427387904) : InO p O :=
  ⟨h.v, ⟨hl, hr, h.p.1, h.p.2⟩, ⟨hl, hr, h.r.1, h.r.2⟩, ⟨hl, hr, h.d.1, h.d.2⟩⟩
theorem tfs_okZ {ms : List Int} (hl : ms.length ≤ 6) (h : ∀ y ∈ ms, 0 ≤ y ∧ y ≤ 132) : OkZ ((ms.map tf).map rfOf) := ⟨by simpa using hl, fun f hf => by
  obtain ⟨g, hg, rfl⟩ := List.mem_map.1 hf
  exact ((tfs_f6 h g hg).f9).sm⟩
theorem Yr (bs : List Int) (p : Nat) (n : Int) (h0 : 0 ≤ n) (h1 : n ≤ 6) (hb : Bytes bs) :
    OkB Tryz.prog 15 82 (codes bs p) [intC n] (fun q : List Int × Nat => (q.1.length : Int) = n ∧ ∀ y ∈ q.1, 0 ≤ y ∧ y ≤ 132) (fun q => rfsC ((q.1.map tf).map rfOf)) (fun q => codes bs q.2) := by
  have h := Fractions_fr bs p n h0 (by omega) hb
  rwa [show (fun q : List Int × Nat => fracsC (q.1.map tf)) = fun q => rfsC ((q.1.map tf).map rfOf) from funext fun q => (rfs_of _).symm] at h
theorem sOuts : SlcT Tryz.prog 76 46 7 136 (.agg #[.int .i64 0, .bool false, .slice none 0 0, .slice none 0 0, .slice none 0 0, .slice none 0 0, .slice none 0 0]) := SlcT.of Tryz.underlying76 (by kernel_rfl) rfl (by decide)
set_option maxHeartbeats 16000000 in
theorem FarkasChecks_t2 (B0 : List Int) (hB : Bytes B0) (p0 : Nat) (n : Int) (raw : List Rw) (goal : List Int) (y : List Rf) (most : Rf) (o : Ro) (k : Int) (rs : List Rw) (g : List Int) (x odd : Ro)
    (hP : ∀ p ∈ [rs, raw], p.length ≤ 6 ∧ ∀ r ∈ p, r.cs.length < 4611686018427387904) (hQ : ∀ q ∈ [g, goal], q.length ≤ 64 ∧ ∀ y ∈ q, -9223372036854775808 ≤ y ∧ y ≤ 9223372036854775807) (hy : OkZ y) (hm : Sm most) (hO : ∀ O ∈ [x, odd, o], OkO O) (S : BSet) (w : World) :
    St { P := Tryz.prog, n := 301, S0 := S, w0 := w, bor := noBor } [(2, .ct (rowsC raw)), (17, .ct (rowsC rs)), (1, .ct (intC n)), (3, .ct (intsC goal)), (4, .ct (rfsC y)), (12, .ct (.fr (ptrT (rfCs most)))), (13, .ct (.fr (ptrT (roCs o)))), (15, .own 0), (16, .ct (intC k)), (18, .ct (intsC g)), (19, .ct (.fr (ptrT (roCs x)))), (21, .ct (.fr (ptrT (roCs odd))))]
      [(0, .box 82 (codes B0 p0))]
      (seqR (seqR (seqR (seqR (seqR (seqR (seqR ((bodyOf Tryz.f10)))))))))
      (bodyPost Tryz.prog Tryz.f10 (okPost { P := Tryz.prog, n := 301, S0 := S, w0 := w, bor := noBor } (boolC true))) := by
  refine Qy (Qy (Qx fun K hK => ?_)); refine Qq J J J (Qq J J J (ZY (m := 2) (n := 1) (cs := [rowsC rs, rowsC raw]) J J sRowss (.one J J J J (.one J J J J .nil)) (by decide) J ?_)); refine Q3 (m := 2) J J sRowss.und J J (Qq J J J (Qv (hK _ _ (Qz (Q4 ?_))))); clear hK K; have hxd := (hO x (by simp)).d; have g0 := hQ g (by simp); have g1 := hQ goal (by simp); generalize hPs : [rs, raw] = Ps at hP
  have hPl : Ps.length = 2 := by rw [← hPs]; rfl
  have hC : chunk 1 2 [rowsC rs, rowsC raw] = Ps.map fun p => [rowsC p] := by rw [← hPs]; rfl
  rw [hC]; clear hC hPs; generalize hQs : [g, goal] = Qs at hQ
  have hQl : Qs.length = 2 := by rw [← hQs]; rfl
  have hCQ : chunk 1 2 [intsC g, intsC goal] = Qs.map fun q => [intsC q] := by rw [← hQs]; rfl
  generalize hOs : [x, odd, o] = Os at hO
  have hOl : Os.length = 3 := by rw [← hOs]; rfl
  have hCO : chunk 7 3 (roCs x ++ roCs odd ++ roCs o) = Os.map roCs := by rw [← hOs]; rfl
  clear hQs hOs
  refine Qn (α := Nat × Nat) (fun s => s.1 ≤ 2)
    (fun s => [(1, .ct (intC n)), (3, .ct (intsC goal)), (4, .ct (rfsC y)), (12, .ct (.fr (ptrT (rfCs most)))), (13, .ct (.fr (ptrT (roCs o)))), (15, .own 0), (16, .ct (intC k)), (18, .ct (intsC g)), (19, .ct (.fr (ptrT (roCs x)))), (21, .ct (.fr (ptrT (roCs odd)))), (119, .ct (.fr (sliceT 1 (Ps.map fun p => [rowsC p])))), (120, .ct (intC 2)), (121, .ct (intC s.1))])
    (fun s => [(0, .box 82 (codes B0 s.2))]) (fun s => 2 - s.1) (0, p0) (Nat.zero_le _) (by exact QJ J ⟨rfl, rfl, rfl, rfl, rfl, rfl, rfl, rfl, rfl, rfl, rfl, rfl, rfl, trivial⟩) ?_
  rintro ⟨i1, p1⟩ hj
  (try dsimp only at hj ⊢)
  refine Qy (Qx fun K hK => ?_); refine Qk ilss J J J J (Qv (hK _ _ (Qz (Qy ?_)))); clear hK K; refine Q1 J (fun h1 => ?_) (fun h1 => ?_)
  · have e1 : (i1 : Int).toNat = i1 := Int.toNat_natCast i1
    have hlt1 : i1 < Ps.length := by omega
    obtain ⟨hl, hr⟩ := hP _ (Xj (z := []) hlt1); refine Q0 (Qz (Qy (Q4 (Qy (Qx fun K hK => ?_)))))
    refine Qc J J J sRowss (by omega) (map_at (fun y => [rowsC y]) [] (by omega) (by omega)) J ?_
    rw [e1]; generalize Ps.getD i1 [] = p at hl hr; refine Ql J J J lRows4 J (Qj J J J (Qv (hK _ _ (Qz (Qy ?_))))); clear hK K; refine Qx (fun K hK => ?_); refine Qq J J J (Qq J J J (ZY (m := 2) (n := 1) (cs := [intC k, intC n]) J J sInts (.one J J J J (.one J J J J .nil)) (by decide) J ?_)); refine Q3 (m := 2) J J sInts.und J J (Qq J J J (Qv (hK _ _ (Qz (Q4 ?_))))); clear hK K; generalize hMs : [k, n] = Ms
    have hMl : Ms.length = 2 := by rw [← hMs]; rfl
    have hCM : chunk 1 2 [intC k, intC n] = Ms.map fun x => [intC x] := by rw [← hMs]; rfl
    rw [hCM]; clear hCM hMs
    refine Qn (α := Nat × Nat) (fun s => s.1 ≤ 2)
      (fun s => [(1, .ct (intC n)), (3, .ct (intsC goal)), (4, .ct (rfsC y)), (12, .ct (.fr (ptrT (rfCs most)))), (13, .ct (.fr (ptrT (roCs o)))), (15, .own 0), (16, .ct (intC k)), (18, .ct (intsC g)), (19, .ct (.fr (ptrT (roCs x)))), (21, .ct (.fr (ptrT (roCs odd)))), (119, .ct (.fr (sliceT 1 (Ps.map fun p => [rowsC p])))), (120, .ct (intC 2)), (121, .ct (intC i1)), (23, .ct (rowsC p)), (127, .ct (intsC Ms)), (128, .ct (intC 2)), (129, .ct (intC s.1))])
      (fun s => [(0, .box 82 (codes B0 s.2))]) (fun s => 2 - s.1) (0, p1) (Nat.zero_le _) (by exact QJ J ⟨rfl, rfl, rfl, rfl, rfl, rfl, rfl, rfl, rfl, rfl, rfl, rfl, rfl, rfl, rfl, rfl, rfl, trivial⟩) ?_
    rintro ⟨i2, p2⟩ hj2
    (try dsimp only at hj2 ⊢)
    refine Qy (Qx fun K hK => ?_); refine Qk ilss J J J J (Qv (hK _ _ (Qz (Qy ?_)))); clear hK K; refine Q1 J (fun h2 => ?_) (fun h2 => ?_)
    · have e2 : (i2 : Int).toNat = i2 := Int.toNat_natCast i2; refine Q0 (Qz (Qy (Q4 (Qy (Qx fun K hK => ?_)))))
      refine Qc J J J sInts (by omega) (Xw (by omega) (by omega)) J ?_
      refine Ql J J J lInt J (Qj J J J (Qv (hK _ _ (Qz (Qy (Qy ?_)))))); clear hK K; rw [e2]; generalize Ms.getD i2 0 = m; refine Zq (α := List Rf × Nat) (fun s => OkZ s.1) (fun s => [(1, .ct (intC n)), (3, .ct (intsC goal)), (4, .ct (rfsC y)), (12, .ct (.fr (ptrT (rfCs most)))), (13, .ct (.fr (ptrT (roCs o)))), (15, .own 0), (16, .ct (intC k)), (18, .ct (intsC g)), (19, .ct (.fr (ptrT (roCs x)))), (21, .ct (.fr (ptrT (roCs odd)))), (119, .ct (.fr (sliceT 1 (Ps.map fun p => [rowsC p])))), (120, .ct (intC 2)), (121, .ct (intC i1)), (23, .ct (rowsC p)), (127, .ct (intsC Ms)), (128, .ct (intC 2)), (129, .ct (intC i2)), (25, .ct (intC m)), (140, .ct (rfssC [y, x.dual, s.1])), (141, .ct (intC 3)), (142, .ct (intC ((0 : Nat) : Int)))]) (fun s => [(0, .box 82 (codes B0 s.2))]) (fun s hz3 => ?_) (fun KK hN => ?_); rotate_left
      · refine St.drawQ mixed [6] (.p 0 (.p 1 (.p 3 (.p 4 (.p 5 (.p 9 (.m 2 (.a 6 (.m 7 (.p 8 .done) .non) .non) (.a 6 (.m 2 (.m 7 (.p 8 .done) .non) .non) .non)))))))) (by kernel_rfl) (fun K hK => ?_); refine X3 (Qq J J J (Qv ?_)); refine X3 (ZJ J J fO4 J (Qv ?_)); refine X3 (Qq J J J (Qv ?_)); refine X3 (Qq J J J (Qv ?_)); refine X3 (Q3 (m := p.length) J J sRows.und (List.length_map ..) J (Qv ?_)); refine X3 (Qq J J J (Qv ?_))
        refine Xi ?_ ?_
        · refine Ql J J J lFracs J (Qv (XK ?_ Qo)); refine Xb goFractions (Yr B0 p2 p.length (by omega) (by omega) hB) J J J J J (fun q hq => ?_); obtain ⟨ms, p3⟩ := q; obtain ⟨hq1, hq2⟩ := hq; dsimp only at hq1 hq2 ⊢; have hz3 := tfs_okZ (by omega) hq2; generalize (ms.map tf).map rfOf = z3 at hz3 ⊢; refine Qv (Xi ?_ Qo)
          refine ZY (m := 3) (n := 1) (cs := [rfsC y, rfsC x.dual, rfsC z3]) J J sFracss (.one J J J J (.one J J J J (.one J J J J .nil))) (by decide) J ?_
          refine Qv (X3 (Q3 (m := 3) J J sFracss.und J J (Qv (Xo (hK _ _ ?_))))); exact XW hN (z3, p3) hz3 (by exact QJ J ⟨rfl, rfl, rfl, rfl, rfl, rfl, rfl, rfl, rfl, rfl, rfl, rfl, rfl, rfl, rfl, rfl, rfl, rfl, rfl, rfl, rfl, trivial⟩)
        · refine XK ?_ Qo
          refine Xb goFractions (Yr B0 p2 p.length (by omega) (by omega) hB) J J J J J (fun q hq => ?_); obtain ⟨ms, p3⟩ := q; obtain ⟨hq1, hq2⟩ := hq; dsimp only at hq1 hq2 ⊢; have hz3 := tfs_okZ (by omega) hq2; generalize (ms.map tf).map rfOf = z3 at hz3 ⊢; refine Qv (Xi ?_ Qo); refine Ql J J J lFracs J (Qv (Xi ?_ Qo))
          refine ZY (m := 3) (n := 1) (cs := [rfsC y, rfsC x.dual, rfsC z3]) J J sFracss (.one J J J J (.one J J J J (.one J J J J .nil))) (by decide) J ?_
          refine Qv (X3 (Q3 (m := 3) J J sFracss.und J J (Qv (Xo (hK _ _ ?_))))); exact XW hN (z3, p3) hz3 (by exact QJ J ⟨rfl, rfl, rfl, rfl, rfl, rfl, rfl, rfl, rfl, rfl, rfl, rfl, rfl, rfl, rfl, rfl, rfl, rfl, rfl, rfl, rfl, trivial⟩)
      obtain ⟨z3, p3⟩ := s; dsimp only at hz3 ⊢
      have hZ : ∀ z ∈ [y, x.dual, z3], OkZ z := fun z hz => by
        simp only [List.mem_cons, List.not_mem_nil, or_false] at hz; rcases hz with rfl | rfl | rfl
        · exact hy
        · exact hxd
        · exact hz3
      generalize hZs : [y, x.dual, z3] = Zs at hZ ⊢
      have hZl : Zs.length = 3 := by rw [← hZs]; rfl
      clear hZs
      refine Q4 ?_
      refine Qn (α := Nat) (fun i => i ≤ 3)
        (fun i => [(1, .ct (intC n)), (3, .ct (intsC goal)), (4, .ct (rfsC y)), (12, .ct (.fr (ptrT (rfCs most)))), (13, .ct (.fr (ptrT (roCs o)))), (15, .own 0), (16, .ct (intC k)), (18, .ct (intsC g)), (19, .ct (.fr (ptrT (roCs x)))), (21, .ct (.fr (ptrT (roCs odd)))), (119, .ct (.fr (sliceT 1 (Ps.map fun p => [rowsC p])))), (120, .ct (intC 2)), (121, .ct (intC i1)), (23, .ct (rowsC p)), (127, .ct (intsC Ms)), (128, .ct (intC 2)), (129, .ct (intC i2)), (25, .ct (intC m)), (140, .ct (rfssC Zs)), (141, .ct (intC 3)), (142, .ct (intC i))])
        (fun _ => [(0, .box 82 (codes B0 p3))]) (fun i => 3 - i) 0 (Nat.zero_le _) (by exact QJ J ⟨rfl, rfl, rfl, rfl, rfl, rfl, rfl, rfl, rfl, rfl, rfl, rfl, rfl, rfl, rfl, rfl, rfl, rfl, rfl, rfl, rfl, trivial⟩) ?_
      intro i3 hj3
      (try dsimp only at hj3 ⊢)
      refine Qy (Qx fun K hK => ?_); refine Qk ilss J J J J (Qv (hK _ _ (Qz (Qy ?_)))); clear hK K; refine Q1 J (fun h3 => ?_) (fun h3 => ?_)
      · have e3 : (i3 : Int).toNat = i3 := Int.toNat_natCast i3
        have hlt3 : i3 < Zs.length := by omega
        obtain ⟨hzl, hzs⟩ := hZ _ (Xj (z := []) hlt3); refine Q0 (Qz (Qy (Q4 (Qy (Qx fun K hK => ?_)))))
        refine Qc J J J sFracss (by omega) (map_at (fun y => [rfsC y]) [] (by omega) (by omega)) J ?_
        rw [e3]; generalize Zs.getD i3 [] = z at hzl hzs; refine Ql J J J lFracs J (Qj J J J (Qv (hK _ _ ?_))); clear hK K
        refine Qz ?_
        have hI : In35 p z := ⟨hl, hr, hzl, hzs⟩; obtain ⟨os, cb, e, C1, C2, C3, C4⟩ := comb_raw (n := m) hI; obtain ⟨rb, R1, R2⟩ := refutes_raw (n := m) hI; obtain ⟨l, hll, P1, P2⟩ := prune_raw (n := m) hI; refine Qy (Zq (α := Unit) (fun _ => True) (fun _ => [(1, .ct (intC n)), (3, .ct (intsC goal)), (4, .ct (rfsC y)), (12, .ct (.fr (ptrT (rfCs most)))), (13, .ct (.fr (ptrT (roCs o)))), (15, .own 0), (16, .ct (intC k)), (18, .ct (intsC g)), (19, .ct (.fr (ptrT (roCs x)))), (21, .ct (.fr (ptrT (roCs odd)))), (119, .ct (.fr (sliceT 1 (Ps.map fun p => [rowsC p])))), (120, .ct (intC 2)), (121, .ct (intC i1)), (23, .ct (rowsC p)), (127, .ct (intsC Ms)), (128, .ct (intC 2)), (129, .ct (intC i2)), (25, .ct (intC m)), (140, .ct (rfssC Zs)), (141, .ct (intC 3)), (142, .ct (intC i3)), (27, .ct (rfsC z)), (28, .ct (ratsC os)), (29, .own 1), (30, .ct (intC e))]) (fun _ => [(1, .box 38 (frCs cb)), (0, .box 82 (codes B0 p3))]) (fun _ _ => ?_) (fun KK hN => ?_)); rotate_left
        · refine Qx (fun K hK => ?_); refine Qq J J J (Qq J J J (Qq J J J (QX goCombine C1 J J J J (Qq J J J (QZ J J J J (QZ J J J J (QZ J J J J (Qa 1 J J zvFrac J J J (Qj J J J (Q8 3 J J J J J szFrac J J (Qj J J J (Qv (hK _ _ ?_))))))))))))); clear hK K; exact XW hN () trivial (by exact QJ J ⟨rfl, rfl, rfl, rfl, rfl, rfl, rfl, rfl, rfl, rfl, rfl, rfl, rfl, rfl, rfl, rfl, rfl, rfl, rfl, rfl, rfl, rfl, rfl, rfl, rfl, trivial⟩)
        refine Qy (Zq (α := Unit) (fun _ => True) (fun _ => [(1, .ct (intC n)), (3, .ct (intsC goal)), (4, .ct (rfsC y)), (12, .ct (.fr (ptrT (rfCs most)))), (13, .ct (.fr (ptrT (roCs o)))), (15, .own 0), (16, .ct (intC k)), (18, .ct (intsC g)), (19, .ct (.fr (ptrT (roCs x)))), (21, .ct (.fr (ptrT (roCs odd)))), (119, .ct (.fr (sliceT 1 (Ps.map fun p => [rowsC p])))), (120, .ct (intC 2)), (121, .ct (intC i1)), (23, .ct (rowsC p)), (127, .ct (intsC Ms)), (128, .ct (intC 2)), (129, .ct (intC i2)), (25, .ct (intC m)), (140, .ct (rfssC Zs)), (141, .ct (intC 3)), (142, .ct (intC i3)), (27, .ct (rfsC z)), (28, .ct (ratsC os)), (29, .own 1), (30, .ct (intC e)), (31, .ct (ratsC os)), (32, .own 2), (33, .ct (intC e))]) (fun _ => [(2, .box 38 (frCs cb)), (1, .box 38 (frCs cb)), (0, .box 82 (codes B0 p3))]) (fun _ _ => ?_) (fun KK hN => ?_)); rotate_left
        · refine Qx (fun K hK => ?_); refine Qq J J J (Qq J J J (Qq J J J (QX gorCombine C2 J J J J (Qq J J J (QZ J J J J (QZ J J J J (QZ J J J J (Qa 2 J J zvFrac J J J (Qj J J J (Q8 3 J J J J J szFrac J J (Qj J J J (Qv (hK _ _ ?_))))))))))))); clear hK K; exact XW hN () trivial (by exact QJ J ⟨rfl, rfl, rfl, rfl, rfl, rfl, rfl, rfl, rfl, rfl, rfl, rfl, rfl, rfl, rfl, rfl, rfl, rfl, rfl, rfl, rfl, rfl, rfl, rfl, rfl, rfl, rfl, rfl, trivial⟩)
        refine Qy (Zq (α := Unit) (fun _ => True) (fun _ => [(1, .ct (intC n)), (3, .ct (intsC goal)), (4, .ct (rfsC y)), (12, .ct (.fr (ptrT (rfCs most)))), (13, .ct (.fr (ptrT (roCs o)))), (15, .own 0), (16, .ct (intC k)), (18, .ct (intsC g)), (19, .ct (.fr (ptrT (roCs x)))), (21, .ct (.fr (ptrT (roCs odd)))), (119, .ct (.fr (sliceT 1 (Ps.map fun p => [rowsC p])))), (120, .ct (intC 2)), (121, .ct (intC i1)), (23, .ct (rowsC p)), (127, .ct (intsC Ms)), (128, .ct (intC 2)), (129, .ct (intC i2)), (25, .ct (intC m)), (140, .ct (rfssC Zs)), (141, .ct (intC 3)), (142, .ct (intC i3)), (27, .ct (rfsC z))]) (fun _ => [(0, .box 82 (codes B0 p3))]) (fun _ _ => ?_) (fun KK hN => ?_)); rotate_left
        · refine Qy (Qx fun K hK => ?_); refine Qq J J J (Qq J J J (Qk ineq J J J J (Qq J J J (Qi 165 J (fun h => absurd J h) (fun _ => ?_))))); refine Qq J J J (Qq J J J (QX gorSameAll C3 J J J J (Qe J J J (Q2 J J J J (Qq J J J (Qd (n := 3) J J J J J Qg J (Qd (n := 3) J J J J J Qg J (QX goEqual C4 J J J J (Qe J J J (Q2 J J J J (Qq J J J (Qq J J J (Qq J J J (Qq J J J (QX goRefutes R1 J J J J (Qq J J J (Qq J J J (Qq J J J (QX gorRefutes R2 J J J J (YX J J J uBool J (Q2 J J J J (Qv (hK _ _ (Qz ?_)))))))))))))))))))))))); clear hK K; refine Q1 J (fun h => absurd J h) (fun _ => ?_); refine Q0 (Xy 2 (Xy 1 ?_)); exact XW hN () trivial (by exact QJ J ⟨rfl, rfl, rfl, rfl, rfl, rfl, rfl, rfl, rfl, rfl, rfl, rfl, rfl, rfl, rfl, rfl, rfl, rfl, rfl, rfl, rfl, rfl, trivial⟩)
        clear C1 C2 C3 C4 R1 R2; refine Qy (Zq (α := Unit) (fun _ => True) (fun _ => [(1, .ct (intC n)), (3, .ct (intsC goal)), (4, .ct (rfsC y)), (12, .ct (.fr (ptrT (rfCs most)))), (13, .ct (.fr (ptrT (roCs o)))), (15, .own 0), (16, .ct (intC k)), (18, .ct (intsC g)), (19, .ct (.fr (ptrT (roCs x)))), (21, .ct (.fr (ptrT (roCs odd)))), (119, .ct (.fr (sliceT 1 (Ps.map fun p => [rowsC p])))), (120, .ct (intC 2)), (121, .ct (intC i1)), (23, .ct (rowsC p)), (127, .ct (intsC Ms)), (128, .ct (intC 2)), (129, .ct (intC i2)), (25, .ct (intC m)), (140, .ct (rfssC Zs)), (141, .ct (intC 3)), (142, .ct (intC i3)), (27, .ct (rfsC z)), (34, .ct (intsC l)), (35, .ct (intsC l))]) (fun _ => [(0, .box 82 (codes B0 p3))]) (fun _ _ => ?_) (fun KK hN => ?_)); rotate_left
        · refine Qx (fun K hK => ?_); refine Qq J J J (Qq J J J (Qq J J J (QX goPrune P1 J J J J (Qq J J J (Qq J J J (Qq J J J (QX gorPrune P2 J J J J (Qj J J J (Qj J J J (Qv (hK _ _ ?_))))))))))); clear hK K; exact XW hN () trivial (by exact QJ J ⟨rfl, rfl, rfl, rfl, rfl, rfl, rfl, rfl, rfl, rfl, rfl, rfl, rfl, rfl, rfl, rfl, rfl, rfl, rfl, rfl, rfl, rfl, rfl, rfl, trivial⟩)
        clear P1 P2; refine Qy (Qy (Qx fun K hK => ?_)); refine Qq J J J (Q3 J J sInts.und (List.length_map ..) J (Qq J J J (Q3 J J sInts.und (List.length_map ..) J (Qk ineq J J J J (Qv (hK _ _ (Qz ?_))))))); clear hK K; refine Q1 J (fun h => absurd J h) (fun _ => ?_); refine Q0 (Qz (Qy (Qy (Qx fun K hK => ?_)))); refine Qq J J J (Q3 J J sInts.und (List.length_map ..) J (Qq J J J (Qv (hK _ _ (Qz (Q4 ?_)))))); clear hK K
        refine Qn (α := Nat) (fun i => i ≤ l.length)
          (fun i => [(1, .ct (intC n)), (3, .ct (intsC goal)), (4, .ct (rfsC y)), (12, .ct (.fr (ptrT (rfCs most)))), (13, .ct (.fr (ptrT (roCs o)))), (15, .own 0), (16, .ct (intC k)), (18, .ct (intsC g)), (19, .ct (.fr (ptrT (roCs x)))), (21, .ct (.fr (ptrT (roCs odd)))), (119, .ct (.fr (sliceT 1 (Ps.map fun p => [rowsC p])))), (120, .ct (intC 2)), (121, .ct (intC i1)), (23, .ct (rowsC p)), (127, .ct (intsC Ms)), (128, .ct (intC 2)), (129, .ct (intC i2)), (25, .ct (intC m)), (140, .ct (rfssC Zs)), (141, .ct (intC 3)), (142, .ct (intC i3)), (27, .ct (rfsC z)), (34, .ct (intsC l)), (35, .ct (intsC l)), (202, .ct (intC l.length)), (203, .ct (intC i))])
          (fun _ => [(0, .box 82 (codes B0 p3))]) (fun i => l.length - i) 0 (Nat.zero_le _) (by exact QJ J ⟨rfl, rfl, rfl, rfl, rfl, rfl, rfl, rfl, rfl, rfl, rfl, rfl, rfl, rfl, rfl, rfl, rfl, rfl, rfl, rfl, rfl, rfl, rfl, rfl, rfl, rfl, trivial⟩) ?_
        intro i4 hj4
        (try dsimp only at hj4 ⊢)
        refine Qy (Qx fun K hK => ?_); refine Qk ilss J J J J (Qv (hK _ _ (Qz (Qy ?_)))); clear hK K; refine Q1 J (fun h4 => ?_) (fun h4 => ?_)
        · have e4 : (i4 : Int).toNat = i4 := Int.toNat_natCast i4; refine Q0 (Qz (Qy (Q4 (Qy (Qx fun K hK => ?_))))); refine Qq J J J (Qj J J J (Qv (hK _ _ (Qz (Qy ?_))))); clear hK K; refine Xz mixed 9 (.p 0 (.p 1 (.p 2 (.p 4 (.p 5 (.p 6 (.f 3 (.f 7 (.p 8 .done))))))))) (by kernel_rfl) (fun K hK => ?_); refine Qq J J J (Qq J J J (Qc J J J sInts (by omega) (Xw (by omega) (by omega)) J ?_)); refine Qq J J J (Qq J J J (Qc J J J sInts (by omega) (Xw (by omega) (by omega)) J ?_)); refine Ql J J J lInt J (Ql J J J lInt J (Qk ineq J J J J (Qv (hK _ _ (Qz ?_))))); clear hK K; refine Q1 J (fun h => absurd J h) (fun _ => ?_); refine Q0 (Qz (Qx fun K hK => ?_))
          refine Qk (iadd (by omega) (by omega)) J J J J ?_
          refine Qq J J J (Qv (hK _ _ (Q7 ?_))); clear hK K; refine Qb (i4 + 1) (by omega) (by omega) (by exact QJ J ⟨rfl, rfl, rfl, rfl, rfl, rfl, rfl, rfl, rfl, rfl, rfl, rfl, rfl, rfl, rfl, rfl, rfl, rfl, rfl, rfl, rfl, rfl, rfl, rfl, rfl, by simp only [Int.natCast_add]; rfl, trivial⟩)
        · refine Qm (Qz (Qy (Qx fun K hK => ?_))); refine Qq J J J (Qq J J J (ZY (m := 2) (n := 1) (cs := [intsC g, intsC goal]) J J sIntss4 (.one J J J J (.one J J J J .nil)) (by decide) J ?_)); refine Q3 (m := 2) J J sIntss4.und J J (Qq J J J (Qv (hK _ _ (Qz (Q4 ?_))))); clear hK K; rw [hCQ]
          refine Qn (α := Nat) (fun i => i ≤ 2)
            (fun i => [(1, .ct (intC n)), (3, .ct (intsC goal)), (4, .ct (rfsC y)), (12, .ct (.fr (ptrT (rfCs most)))), (13, .ct (.fr (ptrT (roCs o)))), (15, .own 0), (16, .ct (intC k)), (18, .ct (intsC g)), (19, .ct (.fr (ptrT (roCs x)))), (21, .ct (.fr (ptrT (roCs odd)))), (119, .ct (.fr (sliceT 1 (Ps.map fun p => [rowsC p])))), (120, .ct (intC 2)), (121, .ct (intC i1)), (23, .ct (rowsC p)), (127, .ct (intsC Ms)), (128, .ct (intC 2)), (129, .ct (intC i2)), (25, .ct (intC m)), (140, .ct (rfssC Zs)), (141, .ct (intC 3)), (142, .ct (intC i3)), (27, .ct (rfsC z)), (218, .ct (.fr (sliceT 1 (Qs.map fun q => [intsC q])))), (219, .ct (intC 2)), (220, .ct (intC i))])
            (fun _ => [(0, .box 82 (codes B0 p3))]) (fun i => 2 - i) 0 (Nat.zero_le _) (by exact QJ J ⟨rfl, rfl, rfl, rfl, rfl, rfl, rfl, rfl, rfl, rfl, rfl, rfl, rfl, rfl, rfl, rfl, rfl, rfl, rfl, rfl, rfl, rfl, rfl, rfl, rfl, trivial⟩) ?_
          intro i5 hj5
          (try dsimp only at hj5 ⊢)
          refine Qy (Qx fun K hK => ?_); refine Qk ilss J J J J (Qv (hK _ _ (Qz (Qy ?_)))); clear hK K; refine Q1 J (fun h5 => ?_) (fun h5 => ?_)
          · have e5 : (i5 : Int).toNat = i5 := Int.toNat_natCast i5
            have hlt5 : i5 < Qs.length := by omega
            obtain ⟨q1, q2⟩ := hQ _ (Xj (z := []) hlt5); refine Q0 (Qz (Qy (Q4 (Qy (Qx fun K hK => ?_)))))
            refine Qc J J J sIntss4 (by omega) (map_at (fun q => [intsC q]) [] (by omega) (by omega)) J ?_
            rw [e5]; generalize Qs.getD i5 [] = q at q1 q2
            refine Ql J J J lInts J ?_
            obtain ⟨v, vb, V1, V2⟩ := ceil_raw (n := m) (c := q) hI q1 q2; obtain ⟨bb, W1, W2⟩ := bounds_raw (n := m) (c := q) hI most hm q1 q2; refine Qj J J J (Qv (hK _ _ (Qz (Qy ?_)))); clear hK K; refine Qx (fun K hK => ?_); refine Qq J J J (Qq J J J (Qq J J J (Qq J J J (QX goCeiling V1 J J J J (Qq J J J (QZ J J J J (QZ J J J J (Qj J J J (Qj J J J (Qv (hK _ _ (Qz (Qy ?_))))))))))))); clear hK K; refine Qx (fun K hK => ?_); refine Qq J J J (Qq J J J (Qq J J J (Qq J J J (QX gorCeiling V2 J J J J (Qq J J J (QZ J J J J (QZ J J J J (Qj J J J (Qj J J J (Qv (hK _ _ (Qz (Qy ?_))))))))))))); clear hK K; refine Xz mixed 23 (.p 0 (.p 1 (.p 2 (.p 3 (.p 4 (.p 5 (.p 6 (.p 7 (.p 8 (.p 9 (.p 10 (.p 11 (.p 12 (.p 15 (.p 16 (.p 17 (.p 18 (.f 13 (.f 19 (.m 14 (.m 20 (.p 21 (.p 22 .done))))))))))))))))))))))) (by kernel_rfl) (fun K hK => ?_); refine Qq J J J (Qq J J J (Qk ineq J J J J (Qq J J J (Qi 243 J (fun h => absurd J h) (fun _ => ?_))))); refine Qq J J J (Qq J J J (YX J J J uBool J (Q2 J J J J (Qq J J J (Qi 248 J (fun h => absurd J h) (fun _ => ?_))))))
            refine Qq J J J (Qq J J J (Qq J J J (Qq J J J (Qq J J J (Qq J J J (Qq J J J (Qq J J J (Xk (n := 3) J J J Qg J J (Xk (n := 3) J J J Qg J J (QX goBounds W1 J J J J (QX gorBounds W2 J J J J (YX J J J uBool J (Q2 J J J J (Qv (hK _ _ (Qz ?_)))))))))))))))); clear hK K; refine Q1 J (fun h => absurd J h) (fun _ => ?_); refine Q0 (Qz (Qx fun K hK => ?_))
            refine Qk (iadd (by omega) (by omega)) J J J J ?_
            refine Qq J J J (Qv (hK _ _ (Q7 ?_))); clear hK K; refine Qb (i5 + 1) (by omega) (by omega) (by exact QJ J ⟨rfl, rfl, rfl, rfl, rfl, rfl, rfl, rfl, rfl, rfl, rfl, rfl, rfl, rfl, rfl, rfl, rfl, rfl, rfl, rfl, rfl, rfl, rfl, rfl, by simp only [Int.natCast_add]; rfl, trivial⟩)
          · refine Qm (Qz (Qx fun K hK => ?_))
            refine Qk (iadd (by omega) (by omega)) J J J J ?_
            refine Qq J J J (Qv (hK _ _ (Q7 ?_))); clear hK K; refine Qb (i3 + 1) (by omega) (by omega) (by exact QJ J ⟨rfl, rfl, rfl, rfl, rfl, rfl, rfl, rfl, rfl, rfl, rfl, rfl, rfl, rfl, rfl, rfl, rfl, rfl, rfl, rfl, by simp only [Int.natCast_add]; rfl, trivial⟩)
      · refine Qm (Qz (Qy (Qx fun K hK => ?_)))
        refine Xk (n := 7) J J J lOut J J ?_
        skip
        refine Xk (n := 7) J J J lOut J J ?_
        skip
        refine Xk (n := 7) J J J lOut J J ?_
        skip
        refine ZY (m := 3) (n := 7) (cs := roCs x ++ roCs odd ++ roCs o) J J sOuts (.agg J J J J (.agg J J J J (.agg J J J J .nil))) (by decide) J ?_
        refine Q3 (m := 3) J J sOuts.und J J (Qq J J J (Qv (hK _ _ (Qz (Q4 ?_))))); clear hK K; rw [hCO]
        refine Qn (α := Nat) (fun i => i ≤ 3)
          (fun i => [(1, .ct (intC n)), (3, .ct (intsC goal)), (4, .ct (rfsC y)), (12, .ct (.fr (ptrT (rfCs most)))), (13, .ct (.fr (ptrT (roCs o)))), (15, .own 0), (16, .ct (intC k)), (18, .ct (intsC g)), (19, .ct (.fr (ptrT (roCs x)))), (21, .ct (.fr (ptrT (roCs odd)))), (119, .ct (.fr (sliceT 1 (Ps.map fun p => [rowsC p])))), (120, .ct (intC 2)), (121, .ct (intC i1)), (23, .ct (rowsC p)), (127, .ct (intsC Ms)), (128, .ct (intC 2)), (129, .ct (intC i2)), (25, .ct (intC m)), (268, .ct (.fr (sliceT 7 (Os.map roCs)))), (269, .ct (intC 3)), (270, .ct (intC i))])
          (fun _ => [(0, .box 82 (codes B0 p3))]) (fun i => 3 - i) 0 (Nat.zero_le _) (by exact QJ J ⟨rfl, rfl, rfl, rfl, rfl, rfl, rfl, rfl, rfl, rfl, rfl, rfl, rfl, rfl, rfl, rfl, rfl, rfl, rfl, rfl, rfl, trivial⟩) ?_
        intro i6 hj6
        (try dsimp only at hj6 ⊢)
        refine Qy (Qx fun K hK => ?_); refine Qk ilss J J J J (Qv (hK _ _ (Qz (Qy ?_)))); clear hK K; refine Q1 J (fun h6 => ?_) (fun h6 => ?_)
        · have e6 : (i6 : Int).toNat = i6 := Int.toNat_natCast i6
          have hlt6 : i6 < Os.length := by omega
          have hOi := hO _ (Xj (z := (⟨0, rf0, [], [], []⟩ : Ro)) hlt6); refine Q0 (Qz (Qy (Q4 (Qy (Qx fun K hK => ?_)))))
          refine Qc J J J sOuts (by omega) (map_at roCs ⟨0, rf0, [], [], []⟩ (by omega) (by omega)) J ?_
          rw [e6]; generalize Os.getD i6 ⟨0, rf0, [], [], []⟩ = O at hOi
          refine Xk (n := 7) J J J lOut J J ?_
          obtain ⟨b1, V1, V2⟩ := check_raw (n := m) (c := g) (hOi.inO hl hr) g0.1 g0.2; obtain ⟨b2, W1, W2⟩ := check_raw (n := m) (c := goal) (hOi.inO hl hr) g1.1 g1.2; refine Qa 1 J J zvOut J J J (Q8 7 J J J J J szOut J J (Qv (hK _ _ (Qz (Qy ?_))))); clear hK K; refine Xz mixed 24 (.p 0 (.p 1 (.p 2 (.p 5 (.p 6 (.p 7 (.f 3 (.f 8 (.m 4 (.m 9 (.p 10 (.p 11 (.p 12 (.p 13 (.p 14 (.p 17 (.p 18 (.p 19 (.f 15 (.f 20 (.m 16 (.m 21 (.p 22 (.p 23 .done)))))))))))))))))))))))) (by kernel_rfl) (fun K hK => ?_); refine Qq J J J (Qq J J J (Qq J J J (Qq J J J (Qq J J J (Qq J J J (Qd (n := 7) J J J J J lOut J (Qd (n := 7) J J J J J lOut J (QX goFCheck V1 J J J J (QX gorCheck V2 J J J J (YX J J J uBool J (Qq J J J (Qi 285 J (fun h => absurd J h) (fun _ => ?_))))))))))))); refine Qq J J J (Qq J J J (Qq J J J (Qq J J J (Qq J J J (Qq J J J (Qd (n := 7) J J J J J lOut J (Qd (n := 7) J J J J J lOut J (QX goFCheck W1 J J J J (QX gorCheck W2 J J J J (YX J J J uBool J (Q2 J J J J (Qv (hK _ _ (Qz ?_)))))))))))))); clear hK K; refine Q1 J (fun h => absurd J h) (fun _ => ?_); refine Q0 (Qz (Qx fun K hK => ?_))
          refine Qk (iadd (by omega) (by omega)) J J J J ?_
          refine Qq J J J (Qv (hK _ _ (Q7 ?_))); clear hK K; refine Xy 1 (Qb (i6 + 1) (by omega) (by omega) (by exact QJ J ⟨rfl, rfl, rfl, rfl, rfl, rfl, rfl, rfl, rfl, rfl, rfl, rfl, rfl, rfl, rfl, rfl, rfl, rfl, rfl, rfl, by simp only [Int.natCast_add]; rfl, trivial⟩))
        · refine Qm (Qz (Qx fun K hK => ?_))
          refine Qk (iadd (by omega) (by omega)) J J J J ?_
          refine Qq J J J (Qv (hK _ _ (Q7 ?_))); clear hK K; refine Qb (i2 + 1, p3) (by dsimp only; omega) (by dsimp only; omega) (by exact QJ J ⟨rfl, rfl, rfl, rfl, rfl, rfl, rfl, rfl, rfl, rfl, rfl, rfl, rfl, rfl, rfl, rfl, by simp only [Int.natCast_add]; rfl, trivial⟩)
    · refine Qm (Qz (Qx fun K hK => ?_))
      refine Qk (iadd (by omega) (by omega)) J J J J ?_
      refine Qq J J J (Qv (hK _ _ (Q7 ?_))); clear hK K; refine Qb (i1 + 1, p2) (by dsimp only; omega) (by dsimp only; omega) (by exact QJ J ⟨rfl, rfl, rfl, rfl, rfl, rfl, rfl, rfl, rfl, rfl, rfl, rfl, by simp only [Int.natCast_add]; rfl, trivial⟩)
  · refine Qm (Qz (Qy (Qx fun K hK => ?_))); refine Qj J J J (Qv (hK _ _ (Qz (QU ?_)))); clear hK K; refine QY [_] rfl (Qu J QQ) J J
end Go.Proofs.YtdhmbgogmoaofaaGreat
namespace Go.Proofs.YtdhmbgogmoaofaaGreat
open Go.Own Go.Limbs
attribute [local irreducible] St Ops Go.Own.Fin Ok OkB OkN wpA tf
def e2r1 : List Rw := [⟨[1, 1], 4⟩, ⟨[1], 3⟩]
def e2r2 : List Rw := [⟨[1], 3⟩, ⟨[-1], -5⟩]
def e2y : List Int := [12, 12]
theorem e2y_in : ∀ y ∈ e2y, 0 ≤ y ∧ y ≤ 1000 := by decide
theorem goawake : InGo Tryz.prog 39 := InGo.of Tryz.func39 rfl (by decide)
set_option maxHeartbeats 4000000 in
theorem awake_ok : Ok Tryz.prog 39 [] (boolC true) := by
  have hC := Ceiling_tw 2 e2r1 [2, 1] e2y (by decide) rfl e2y_in (by decide) (by decide) (by decide)
  have hB7 := Bounds_tw 2 e2r1 [2, 1] e2y 84 (by decide) rfl e2y_in (by decide) (by decide) (by unfold Tb; decide)
  have hB6 := Bounds_tw 2 e2r1 [2, 1] e2y 72 (by decide) rfl e2y_in (by decide) (by decide) (by unfold Tb; decide)
  have hR := Refutes_tw 1 e2r2 e2y (by decide) rfl e2y_in
  have hP := Prune_tw 2 e2r1 e2y (by decide) rfl e2y_in
  rw [show covB (cols e2r1 e2y 2) [2, 1] = true by decide] at hC hB7 hB6
  rw [show (if true = true then bsum e2r1 e2y / 12 else 0) = 7 by decide] at hC
  rw [show (true && !decide ((84 : Int) < bsum e2r1 e2y)) = true by decide] at hB7
  rw [show (true && !decide ((72 : Int) < bsum e2r1 e2y)) = false by decide] at hB6
  rw [show (decide (bsum e2r2 e2y < 0) && covB (cols e2r2 e2y 1) []) = true by decide] at hR
  rw [show pruned e2y e2y.length = [0, 1] by decide] at hP
  have hE := Equal_refl (tf 24) (Nat.le_trans (Tb.sz (by unfold Tb; decide)) (by decide)) (tf_lend 24)
  have w1 : Ok Tryz.prog 46 [intC 1] (twC 12) := lwhole_ok 1 (by decide) (by decide)
  have w2 : Ok Tryz.prog 46 [intC 2] (twC 24) := lwhole_ok 2 (by decide) (by decide)
  have w6 : Ok Tryz.prog 46 [intC 6] (twC 72) := lwhole_ok 6 (by decide) (by decide)
  have w7 : Ok Tryz.prog 46 [intC 7] (twC 84) := lwhole_ok 7 (by decide) (by decide)
  refine Ok.enter Tryz.func39 rfl _ Tryz.ntmps39 rfl ?_
  intro S w
  (refine Qy (Qx fun K hK => ?_); refine Qj rfl rfl rfl ?_; refine Qv (hK _ _ (Qz (Qy ?_))); clear hK K; refine Qx (fun K hK => ?_))
  refine ZY (m := 2) (cs := [intC 1, intC 1]) rfl rfl (by with_reducible exact sInts) (.one rfl rfl rfl rfl (.one rfl rfl rfl rfl .nil)) (by decide) rfl ?_
  refine Xa rfl (by with_reducible exact bRow) rfl (.one rfl rfl rfl rfl (.one rfl rfl rfl rfl .nil)) rfl ?_
  refine XZ rfl rfl (by with_reducible exact sInts) rfl rfl rfl ?_
  refine Xa rfl (by with_reducible exact bRow) rfl (.one rfl rfl rfl rfl (.one rfl rfl rfl rfl .nil)) rfl ?_
  refine ZY (m := 2) (n := 2) (cs := rwCs ⟨[1, 1], 4⟩ ++ rwCs ⟨[1], 3⟩) rfl rfl (by with_reducible exact sRows) (.agg rfl rfl rfl rfl (.agg rfl rfl rfl rfl .nil)) (by decide) rfl ?_
  (refine Qj rfl rfl rfl ?_; refine Qv (hK _ _ (Qz (Qy ?_))); clear hK K; refine Qx (fun K hK => ?_))
  refine QX gowhole w1 rfl rfl rfl rfl ?_
  refine QX gowhole w1 rfl rfl rfl rfl ?_
  refine ZY (m := 2) (n := 3) (cs := frCs (tf 12) ++ frCs (tf 12)) rfl rfl (by with_reducible exact sFracs) (.agg rfl rfl rfl rfl (.agg rfl rfl rfl rfl .nil)) (by decide) rfl ?_
  refine Qj rfl rfl rfl ?_
  refine Qv (hK _ _ ?_)
  clear hK K
  refine Fin.keep [(1, .ct (rowsC e2r1)), (2, .ct (twsC e2y))] ⟨rfl, rfl, trivial⟩ ?_
  (refine Qz (Qy (Qx fun K hK => ?_)); refine Qq rfl rfl rfl ?_)
  refine ZY (m := 2) (cs := [intC 2, intC 1]) rfl rfl (by with_reducible exact sInts) (.one rfl rfl rfl rfl (.one rfl rfl rfl rfl .nil)) (by decide) rfl ?_
  (refine Qq rfl rfl rfl ?_)
  refine QX goCeiling hC rfl rfl rfl rfl ?_
  (refine Qq rfl rfl rfl ?_; refine QZ rfl rfl rfl rfl ?_; refine QZ rfl rfl rfl rfl ?_; refine Qj rfl rfl rfl ?_; refine Qj rfl rfl rfl ?_; refine Qv (hK _ _ (Qz (Qy ?_))); clear hK K; refine Qx (fun K hK => ?_); refine Qq rfl rfl rfl ?_)
  refine ZY (m := 2) (cs := [intC 2, intC 1]) rfl rfl (by with_reducible exact sInts) (.one rfl rfl rfl rfl (.one rfl rfl rfl rfl .nil)) (by decide) rfl ?_
  (refine Qq rfl rfl rfl ?_)
  refine QX gowhole w7 rfl rfl rfl rfl ?_
  refine QX goBounds hB7 rfl rfl rfl rfl ?_
  (refine Qq rfl rfl rfl ?_; refine Qq rfl rfl rfl ?_)
  refine ZY (m := 2) (cs := [intC 2, intC 1]) rfl rfl (by with_reducible exact sInts) (.one rfl rfl rfl rfl (.one rfl rfl rfl rfl .nil)) (by decide) rfl ?_
  (refine Qq rfl rfl rfl ?_)
  refine QX gowhole w6 rfl rfl rfl rfl ?_
  refine QX goBounds hB6 rfl rfl rfl rfl ?_
  (refine Qe rfl rfl rfl ?_; refine Q6 rfl rfl rfl rfl ?_; refine Qq rfl rfl rfl ?_; refine Qq rfl rfl rfl ?_; refine Q6 rfl rfl rfl rfl ?_; refine Qq rfl rfl rfl ?_; refine Qq rfl rfl rfl ?_; refine Qk ieql rfl rfl rfl rfl ?_; refine Q6 rfl rfl rfl rfl ?_; refine Qq rfl rfl rfl ?_)
  refine XZ rfl rfl (by with_reducible exact sInts) rfl rfl rfl ?_
  refine Xa rfl (by with_reducible exact bRow) rfl (.one rfl rfl rfl rfl (.one rfl rfl rfl rfl .nil)) rfl ?_
  refine XZ rfl rfl (by with_reducible exact sInts) rfl rfl rfl ?_
  refine Xa rfl (by with_reducible exact bRow) rfl (.one rfl rfl rfl rfl (.one rfl rfl rfl rfl .nil)) rfl ?_
  refine ZY (m := 2) (n := 2) (cs := rwCs ⟨[1], 3⟩ ++ rwCs ⟨[-1], -5⟩) rfl rfl (by with_reducible exact sRows) (.agg rfl rfl rfl rfl (.agg rfl rfl rfl rfl .nil)) (by decide) rfl ?_
  (refine Qq rfl rfl rfl ?_)
  refine QX goRefutes hR rfl rfl rfl rfl ?_
  (refine Q6 rfl rfl rfl rfl ?_; refine Qq rfl rfl rfl ?_)
  refine QX gowhole w2 rfl rfl rfl rfl ?_
  refine QX gowhole w2 rfl rfl rfl rfl ?_
  refine QX goEqual hE rfl rfl rfl rfl ?_
  (refine Q6 rfl rfl rfl rfl ?_; refine Qq rfl rfl rfl ?_; refine Qq rfl rfl rfl ?_; refine Qq rfl rfl rfl ?_)
  refine QX goPrune hP rfl rfl rfl rfl ?_
  (refine Q3 rfl rfl (by with_reducible first | exact sNat.und | exact sInts.und) (List.length_map ..) rfl ?_; refine Qk ieql rfl rfl rfl rfl ?_; refine Q6 rfl rfl rfl rfl ?_; refine Qj rfl rfl rfl ?_; refine Qv (hK _ _ (Qz (QU ?_))); clear hK K)
  refine QY [_] rfl (Qu rfl QQ) rfl rfl
end Go.Proofs.YtdhmbgogmoaofaaGreat
namespace Go.Proofs.YtdhmbgogmoaofaaGreat
open Go.Own Go.Limbs
section
variable {H : Type} {enc : TypeId × Value → H} {P : Program} {w : World} {base : Nat} {spare : Nat → Bool} {held : Bool}
theorem slice_in {α : Type} {t e : TypeId} {n fuel : Nat} {cs0 : List Value} {x : DataW H × List MemPlace} (ht : P.underlying t = some (.slice e)) (hn : P.cellsOf e = n) (hn0 : 0 < n) (f : α → List CT) (hf : ∀ z, (f z).length = n) (good : α → Prop)
    (hE : ∀ m cs y, DataW.trod enc P w base spare held m e cs = some y → cs.length = n → ∃ z, cells (fun _ => True) w (f z) cs ∧ good z)
    (h : DataW.trod enc P w base spare held fuel t cs0 = some x) : ∃ (v : Value) (zs : List α), cs0 = [v] ∧ zs.length ≤ 9223372036854775807 ∧ (∀ z ∈ zs, good z) ∧ (CT.fr (sliceT n (zs.map f))).p (fun _ => True) w v := by
  rcases DataW.trod_slice ht h with ⟨h0, _⟩ | ⟨a, len, cap, elems, rest, m, _, rfl, rfl, _, hl, hm, hlen, hel, _⟩
  · exact ⟨_, [], h0, Nat.zero_le _, (fun z hz => nomatch hz), nil_is n _ w⟩
  rw [hn] at hel
  have key : ∀ k, k ≤ len → ∃ (zs : List α) (vs : List Value), zs.length = k ∧ (∀ z ∈ zs, good z) ∧ cells (fun _ => True) w (zs.map f).flatten vs ∧ vs.length = k * n ∧ ∀ i u, vs[i]? = some u → w.cell? (a.add i) = some u := by
    intro k
    induction k with
    | zero => intro _; exact ⟨[], [], rfl, (fun z hz => nomatch hz), trivial, (Nat.zero_mul n).symm, fun i u hu => by simp at hu⟩
    | succ k ih =>
      intro hk; obtain ⟨zs, vs, e1, e2, e3, e4, e5⟩ := ih (by omega); have h1 := hel k (by omega); rw [List.getElem?_eq_getElem (show k < elems.length by omega), Option.bind_eq_some_iff] at h1; obtain ⟨cs, h2, h3⟩ := h1; obtain ⟨_, h4, h5⟩ := World.cells?_some h2; obtain ⟨z, h6, h7⟩ := hE _ _ _ h3 h4; refine ⟨zs ++ [z], vs ++ cs, by simp [e1], ?_, ?_, by rw [List.length_append, e4, h4, Nat.succ_mul], ?_⟩
      · intro y hy; rcases List.mem_append.1 hy with hy | hy
        · exact e2 y hy
        · rw [List.mem_singleton.1 hy]; exact h7
      · rw [List.map_append, List.flatten_append]
        refine cells.append e3 ?_
        simpa using h6
      · intro i u hu; rcases Nat.lt_or_ge i (k * n) with hi | hi
        · rw [List.getElem?_append_left (by omega)] at hu; exact e5 i u hu
        · rw [List.getElem?_append_right (by omega), e4] at hu
          have hlt : i - k * n < n := by
            have := (List.getElem?_eq_some_iff.1 hu).1; omega
          have := h5 (i - k * n) hlt; rw [Addr.add_add, show k * n + (i - k * n) = i by omega] at this; rw [this, hu]
  obtain ⟨zs, vs, e1, e2, e3, e4, e5⟩ := key len (Nat.le_refl _)
  have hmx : maxLen = 9223372036854775807 := by decide
  refine ⟨_, zs, rfl, by omega, e2, some a, cap, by rw [List.length_map, e1], by rw [List.length_map, e1]; exact hl, hm, fun y hy => by obtain ⟨z, _, rfl⟩ := List.mem_map.1 hy; exact hf z, fun hne => ?_⟩
  have hpos : 0 < len := by
    rcases Nat.eq_zero_or_pos len with h0 | h0
    · rw [h0] at e1; rw [List.length_eq_zero_iff.1 e1] at hne; exact absurd J hne
    · exact h0
  have hvl : 0 < vs.length := by rw [e4]; exact Nat.mul_pos hpos hn0
  have h0 := e5 0 _ (List.getElem?_eq_getElem hvl); obtain ⟨b, o, sp⟩ := a
  have hsp : sp = none ∧ b < w.heap.size := by
    simp only [Addr.add, if_true, World.cell?] at h0
    cases e : w.heap[b]? with
    | none => rw [e] at h0; cases h0
    | some ob =>
      rw [e] at h0
      cases ob with
      | cells c t r =>
        refine ⟨?_, Yg e⟩
        cases sp with
        | none => rfl
        | some q => simp at h0
      | _ => cases h0
  obtain ⟨rfl, hb⟩ := hsp; refine ⟨b, o, rfl, trivial, hb, vs, e3, fun i u hu => ?_⟩; have h1 := e5 i u hu
  have h3 : (⟨b, o, none⟩ : Addr).add i = ⟨b, o + i, none⟩ := by
    unfold Addr.add; split
    · rename_i h; subst h; rfl
    · rfl
  rw [h3] at h1; exact h1
theorem ints_in {t e : TypeId} {fuel : Nat} {cs0 : List Value} {x : DataW H × List MemPlace} (ht : P.underlying t = some (.slice e)) (he : P.underlying e = some (.int .i64)) (hn : P.cellsOf e = 1)
    (h : DataW.trod enc P w base spare held fuel t cs0 = some x) : ∃ (v : Value) (zs : List Int), cs0 = [v] ∧ zs.length ≤ 9223372036854775807 ∧ (∀ z ∈ zs, -9223372036854775808 ≤ z ∧ z ≤ 9223372036854775807) ∧ (intsC zs).p (fun _ => True) w v := by
  refine slice_in ht hn (by decide) (fun z : Int => [intC z]) (fun _ => rfl) (fun z => -9223372036854775808 ≤ z ∧ z ≤ 9223372036854775807) (fun m cs y hy _ => ?_) h; obtain ⟨z, rfl, _, hw⟩ := DataW.trod_int he hy; exact ⟨z, ⟨rfl, trivial⟩, bounds_i64 hw⟩
theorem bytes_in {t e : TypeId} {fuel : Nat} {cs0 : List Value} {x : DataW H × List MemPlace} (ht : P.underlying t = some (.slice e)) (he : P.underlying e = some (.int .u8)) (hn : P.cellsOf e = 1)
    (h : DataW.trod enc P w base spare held fuel t cs0 = some x) : ∃ (v : Value) (zs : List Int), cs0 = [v] ∧ (∀ z ∈ zs, 0 ≤ z ∧ z < 256) ∧ (bytesC zs).p (fun _ => True) w v := by
  obtain ⟨v, zs, h1, _, h2, h3⟩ := slice_in ht hn (by decide) (fun z : Int => [CT.ex (Value.int .u8 z)]) (fun _ => rfl) (fun z => 0 ≤ z ∧ z < 256) (fun m cs y hy _ => by
    obtain ⟨z, rfl, _, hw⟩ := DataW.trod_int he hy
    exact ⟨z, ⟨rfl, trivial⟩, by have := bounds_u8 hw; omega⟩) h
  exact ⟨v, zs, h1, h2, h3⟩
end
theorem rows_in {H : Type} {enc : TypeId × Value → H} {w : World} {base : Nat} {spare : Nat → Bool} {held : Bool} {fuel : Nat} {cs0 : List Value} {x : DataW H × List MemPlace}
    (h : DataW.trod enc Tryz.prog w base spare held fuel 23 cs0 = some x) : ∃ (v : Value) (rs : List Rw), cs0 = [v] ∧ rs.length ≤ 9223372036854775807 ∧ (∀ r ∈ rs, r.cs.length ≤ 9223372036854775807) ∧ (rowsC rs).p (fun _ => True) w v := by
  refine slice_in Tryz.underlying23 (n := 2) (by kernel_rfl) (by decide) rwCs (fun _ => rfl) (fun r => r.cs.length ≤ 9223372036854775807) (fun m cs y hy hl => ?_) h; obtain ⟨xs, k, rfl, rfl, _, h2, h3⟩ := DataW.trod_struct Tryz.underlying57 hy; have f0 := h3 0 _ J; have f1 := h3 1 _ J; rw [List.getElem?_eq_getElem (show 0 < xs.length by rw [h2]; decide)] at f0; rw [List.getElem?_eq_getElem (show 1 < xs.length by rw [h2]; decide)] at f1
  obtain ⟨c0, c1, rfl⟩ : ∃ a b, cs = [a, b] := by
    rcases cs with _ | ⟨a, _ | ⟨b, _ | ⟨c, l⟩⟩⟩ <;> simp only [List.length_nil, List.length_cons] at hl
    · omega
    · omega
    · exact ⟨a, b, rfl⟩
    · omega
  rw [show Tryz.prog.cellsOf _ = 1 from by kernel_rfl] at f0 f1; obtain ⟨v, zs, e1, e2, _, e3⟩ := ints_in Tryz.underlying24 Tryz.underlying3 (by kernel_rfl) f0; obtain ⟨b, e4, _, _⟩ := DataW.trod_int Tryz.underlying3 f1
  injection e1 with e1 _
  injection e4 with e4 _
  have e1 : c0 = v := e1; have e4 : c1 = .int .i64 b := e4; subst e1 e4; exact ⟨⟨zs, b⟩, ⟨e3, rfl, trivial⟩, e2⟩
theorem fracs_in {H : Type} {enc : TypeId × Value → H} {w : World} {base : Nat} {spare : Nat → Bool} {held : Bool} {fuel : Nat} {cs0 : List Value} {x : DataW H × List MemPlace}
    (h : DataW.trod enc Tryz.prog w base spare held fuel 25 cs0 = some x) : ∃ (v : Value) (rs : List Rf), cs0 = [v] ∧ rs.length ≤ 9223372036854775807 ∧ (∀ r ∈ rs, r.xs.length ≤ 9223372036854775807 ∧ r.ys.length ≤ 9223372036854775807) ∧ (rfsC rs).p (fun _ => True) w v := by
  refine slice_in Tryz.underlying25 (n := 3) (by kernel_rfl) (by decide) rfCs (fun _ => rfl) (fun r => r.xs.length ≤ 9223372036854775807 ∧ r.ys.length ≤ 9223372036854775807) (fun m cs y hy hl => ?_) h; obtain ⟨xs, k, rfl, rfl, _, h2, h3⟩ := DataW.trod_struct Tryz.underlying38 hy; have f0 := h3 0 _ J; have f1 := h3 1 _ J; have f2 := h3 2 _ J; rw [List.getElem?_eq_getElem (show 0 < xs.length by rw [h2]; decide)] at f0; rw [List.getElem?_eq_getElem (show 1 < xs.length by rw [h2]; decide)] at f1; rw [List.getElem?_eq_getElem (show 2 < xs.length by rw [h2]; decide)] at f2
  obtain ⟨c0, c1, c2, rfl⟩ : ∃ a b c, cs = [a, b, c] := by
    rcases cs with _ | ⟨a, _ | ⟨b, _ | ⟨c, _ | ⟨d, l⟩⟩⟩⟩ <;> simp only [List.length_nil, List.length_cons] at hl
    · omega
    · omega
    · omega
    · exact ⟨a, b, c, rfl⟩
    · omega
  rw [show Tryz.prog.cellsOf _ = 1 from by kernel_rfl] at f0 f1 f2; obtain ⟨b, e4, _⟩ := DataW.trod_bool Tryz.underlying4 f0; obtain ⟨v, zs, e1, e2, _, e3⟩ := ints_in Tryz.underlying36 Tryz.underlying3 (by kernel_rfl) f1; obtain ⟨v2, zs2, e5, e6, _, e7⟩ := ints_in Tryz.underlying36 Tryz.underlying3 (by kernel_rfl) f2
  injection e1 with e1 _
  injection e4 with e4 _
  injection e5 with e5 _
  have e1 : c1 = v := e1; have e4 : c0 = .bool b := e4; have e5 : c2 = v2 := e5; subst e1 e4 e5; exact ⟨⟨b, zs, zs2⟩, ⟨rfl, e3, e7, trivial⟩, e2, e6⟩
def SzF (f : Rf) : Prop := f.xs.length ≤ 9223372036854775807 ∧ f.ys.length ≤ 9223372036854775807
structure SzO (O : Ro) : Prop where
  v : SzF O.value
  p : O.point.length ≤ 9223372036854775807 ∧ ∀ f ∈ O.point, SzF f
  r : O.ray.length ≤ 9223372036854775807 ∧ ∀ f ∈ O.ray, SzF f
  d : O.dual.length ≤ 9223372036854775807 ∧ ∀ f ∈ O.dual, SzF f
theorem agg_in {P : Program} {w : World} {r : Reach} {b0 : Nat} {t : TypeId} {fs : Array Field} {v : Value} (hu : P.underlying t = some (.struct fs)) (h : Value.okWide P w r b0 t v) : ∃ cs : List Value, v = .agg cs.toArray := by
  simp only [Value.okWide, hu] at h; obtain ⟨cs, h1, _, _⟩ := h; exact ⟨cs.toList, by simpa using h1⟩
section
variable {H : Type} {enc : TypeId × Value → H} {w : World} {base : Nat} {spare : Nat → Bool} {held : Bool} {fuel : Nat} {cs : List Value} {x : DataW H × List MemPlace}
theorem frac_cells (hy : DataW.trod enc Tryz.prog w base spare held fuel 38 cs = some x) : ∃ r : Rf, cells (fun _ => True) w (rfCs r) cs ∧ SzF r := by
  obtain ⟨xs, k, rfl, rfl, hl, h2, h3⟩ := DataW.trod_struct Tryz.underlying38 hy; have hl : cs.length = 3 := hl.trans (by kernel_rfl); have f0 := h3 0 _ J; have f1 := h3 1 _ J; have f2 := h3 2 _ J; rw [List.getElem?_eq_getElem (show 0 < xs.length by rw [h2]; decide)] at f0; rw [List.getElem?_eq_getElem (show 1 < xs.length by rw [h2]; decide)] at f1; rw [List.getElem?_eq_getElem (show 2 < xs.length by rw [h2]; decide)] at f2
  obtain ⟨c0, c1, c2, rfl⟩ : ∃ a b c, cs = [a, b, c] := by
    rcases cs with _ | ⟨a, _ | ⟨b, _ | ⟨c, _ | ⟨d, l⟩⟩⟩⟩ <;> simp only [List.length_nil, List.length_cons] at hl
    · omega
    · omega
    · omega
    · exact ⟨a, b, c, rfl⟩
    · omega
  rw [show Tryz.prog.cellsOf _ = 1 from by kernel_rfl] at f0 f1 f2; obtain ⟨b, e4, _⟩ := DataW.trod_bool Tryz.underlying4 f0; obtain ⟨v, zs, e1, e2, _, e3⟩ := ints_in Tryz.underlying36 Tryz.underlying3 (by kernel_rfl) f1; obtain ⟨v2, zs2, e5, e6, _, e7⟩ := ints_in Tryz.underlying36 Tryz.underlying3 (by kernel_rfl) f2
  injection e1 with e1 _
  injection e4 with e4 _
  injection e5 with e5 _
  have e1 : c1 = v := e1; have e4 : c0 = .bool b := e4; have e5 : c2 = v2 := e5; subst e1 e4 e5; exact ⟨⟨b, zs, zs2⟩, ⟨rfl, e3, e7, trivial⟩, e2, e6⟩
theorem out_cells (hy : DataW.trod enc Tryz.prog w base spare held fuel 46 cs = some x) : ∃ O : Ro, cells (fun _ => True) w (roCs O) cs ∧ SzO O := by
  obtain ⟨xs, k, rfl, rfl, hl, h2, h3⟩ := DataW.trod_struct Tryz.underlying46 hy; have hl : cs.length = 7 := hl.trans (by kernel_rfl); have f0 := h3 0 _ J; have f1 := h3 1 _ J; have f2 := h3 2 _ J; have f3 := h3 3 _ J; have f4 := h3 4 _ J; rw [List.getElem?_eq_getElem (show 0 < xs.length by rw [h2]; decide)] at f0; rw [List.getElem?_eq_getElem (show 1 < xs.length by rw [h2]; decide)] at f1; rw [List.getElem?_eq_getElem (show 2 < xs.length by rw [h2]; decide)] at f2; rw [List.getElem?_eq_getElem (show 3 < xs.length by rw [h2]; decide)] at f3; rw [List.getElem?_eq_getElem (show 4 < xs.length by rw [h2]; decide)] at f4
  obtain ⟨c0, c1, c2, c3, c4, c5, c6, rfl⟩ : ∃ a b c d e f g, cs = [a, b, c, d, e, f, g] := by
    rcases cs with _ | ⟨a, _ | ⟨b, _ | ⟨c, _ | ⟨d, _ | ⟨e, _ | ⟨f, _ | ⟨g, _ | ⟨h, l⟩⟩⟩⟩⟩⟩⟩⟩ <;> simp only [List.length_nil, List.length_cons] at hl
    any_goals omega
    exact ⟨a, b, c, d, e, f, g, rfl⟩
  rw [show Tryz.prog.cellsOf _ = 1 from by kernel_rfl] at f0 f2 f3 f4; rw [show Tryz.prog.cellsOf _ = 3 from by kernel_rfl] at f1; obtain ⟨z, e0, _, _⟩ := DataW.trod_int Tryz.underlying3 f0; obtain ⟨r, g1, g2⟩ := frac_cells f1; obtain ⟨v2, z2, a1, a2, a3, a4⟩ := fracs_in f2; obtain ⟨v3, z3, b1, b2, b3, b4⟩ := fracs_in f3; obtain ⟨v4, z4, d1, d2, d3, d4⟩ := fracs_in f4
  injection e0 with e0 _
  injection a1 with a1 _
  injection b1 with b1 _
  injection d1 with d1 _
  have e0 : c0 = .int .i64 z := e0; have a1 : c4 = v2 := a1; have b1 : c5 = v3 := b1; have d1 : c6 = v4 := d1; subst e0 a1 b1 d1; obtain ⟨g3, g4, g5, _⟩ : cells (fun _ => True) w (rfCs r) [c1, c2, c3] := g1; exact ⟨⟨z, r, z2, z3, z4⟩, ⟨rfl, g3, g4, g5, a4, b4, d4, trivial⟩, ⟨g2, ⟨a2, a3⟩, ⟨b2, b3⟩, ⟨d2, d3⟩⟩⟩
end
end Go.Proofs.YtdhmbgogmoaofaaGreat
namespace Go.Proofs.YtdhmbgogmoaofaaGreat
open Go.Own Go.Limbs Go.Det
attribute [local irreducible] St Ops Go.Own.Fin Ok OkB OkN OkM wpA tf
theorem F9s.okZ {gs : List Fr} (hl : gs.length ≤ 6) (h : ∀ g ∈ gs, F9 g) : OkZ (gs.map rfOf) := ⟨by simpa using hl, fun f hf => by
  obtain ⟨g, hg, rfl⟩ := List.mem_map.1 hf
  exact (h g hg).sm⟩
theorem okZ_nil : OkZ [] := ⟨by decide, fun f hf => nomatch hf⟩
theorem ro_of (O : Oc) : ocCs O = roCs ⟨O.kind, rfOf O.value, O.point.map rfOf, O.ray.map rfOf, O.dual.map rfOf⟩ := by
  show ocCs O = [intC O.kind, boolC O.value.neg, natC O.value.num, natC O.value.den, rfsC (O.point.map rfOf), rfsC (O.ray.map rfOf), rfsC (O.dual.map rfOf)]; rw [rfs_of, rfs_of, rfs_of]
theorem sol_ro {N : Nat} {rs : List Rw} {c : List Int} {O : Oc} (hn : N ≤ 6) (hl : rs.length ≤ 6) (h : Sol N rs c O) : ∃ X : Ro, ocCs O = roCs X ∧ OkO X := by
  refine ⟨_, ro_of O, ?_⟩; have hz : Sm (rfOf frz0) := ⟨by decide +kernel, by decide +kernel⟩
  cases h with
  | opt D X Y val hX hv' hY hw b1 b2 b3 b4 =>
    exact ⟨(F9.shq hl hX.den b1 b4).sm, F9s.okZ (by rw [ptl_len]; omega) (ptl_F9 hl hX.den b1 b2), okZ_nil, F9s.okZ (by rw [ptl_len]; omega) (ptl_F9 hl hY.den b1 b3)⟩
  | unb D X Z hX hZ b1 b2 b3 =>
    exact ⟨hz, F9s.okZ (by rw [ptl_len]; omega) (ptl_F9 hl hX.den b1 b2), F9s.okZ (by rw [ptl_len]; omega) (ptl_F9 hl hZ.den b1 b3), okZ_nil⟩
  | emp D Y hY b1 b3 =>
    exact ⟨hz, okZ_nil, okZ_nil, F9s.okZ (by rw [ptl_len]; omega) (ptl_F9 hl hY.den b1 b3)⟩
theorem smB_sm {f : Rf} (h : smB f = true) : Sm f := by
  unfold smB at h; simp only [Bool.and_eq_true, decide_eq_true_eq] at h; exact ⟨by omega, by omega⟩
theorem shortL_ok {x : List Rf} (h : shortL x = true) : OkZ x := by
  unfold shortL at h; simp only [Bool.and_eq_true, decide_eq_true_eq] at h; exact ⟨h.1, fun f hf => smB_sm (List.all_eq_true.1 h.2 f hf)⟩
set_option maxHeartbeats 16000000 in
theorem FarkasChecks_ok (bs : List Int) (n : Int) (raw : List Rw) (goal : List Int) (y : List Rf) (most : Rf) (o : Ro) (hb : ∀ b ∈ bs, 0 ≤ b ∧ b < 256) (hrl : raw.length ≤ 9223372036854775807) (hr : ∀ r ∈ raw, r.cs.length ≤ 9223372036854775807) (hcl : goal.length ≤ 9223372036854775807) (hg : ∀ y ∈ goal, -9223372036854775808 ≤ y ∧ y ≤ 9223372036854775807)
    (hyl : y.length ≤ 9223372036854775807) (hys : ∀ f ∈ y, f.xs.length ≤ 9223372036854775807 ∧ f.ys.length ≤ 9223372036854775807) (hms : SzF most) (hos : SzO o) :
    Ok Tryz.prog 10 [bytesC bs, intC n, rowsC raw, intsC goal, rfsC y, .fr (aggT (rfCs most)), roC o] (boolC true) := by
  have hSm := small35_ok raw goal [y, o.point, o.ray, o.dual, [most, o.value]] hrl hr hcl (show 5 ≤ _ by decide) (fun x hx => by
    simp only [List.mem_cons, List.not_mem_nil, or_false] at hx; rcases hx with rfl | rfl | rfl | rfl | rfl
    · exact ⟨hyl, hys⟩
    · exact hos.p
    · exact hos.r
    · exact hos.d
    · refine ⟨show 2 ≤ _ by decide, fun f hf => ?_⟩; simp only [List.mem_cons, List.not_mem_nil, or_false] at hf; rcases hf with rfl | rfl
      · exact hms
      · exact hos.v)
  clear hyl hys hms hos
  cases hsm : small35 raw goal [y, o.point, o.ray, o.dual, [most, o.value]] with
  | false =>
    rw [hsm] at hSm
    refine Ok.enter Tryz.func10 J _ Tryz.ntmps10 J ?_
    intro S w; refine Qy (Qx fun K hK => ?_); refine Qh 0 J J J J J J J (Qh 1 J J J J J J J (Qj J J J (Qv (hK _ _ (Qz (Qy (Qy ?_))))))); clear hK K; refine Qx (fun K hK => ?_); refine QX goawake awake_ok J J J J (Qe J J J (Qq J J J (Qq J J J (Qq J J J (Qq J J J (QW J J J fO2 J (QK J J J J J lFracs J (QW J J J fO3 J (QK J J J J J lFracs J (QW J J J fO4 J (QK J J J J J lFracs J (Qd (n := 3) J J J J J Qg J (QW J J J fO1 J (Z6 (n := 3) J J J J (Nat.le_of_ble_eq_true J) Qg J (ZY (m := 2) (n := 3) (cs := rfCs most ++ rfCs o.value) J J sFracs (.agg J J J J (.agg J J J J .nil)) (by decide) J ?_)))))))))))))))
    refine ZY (m := 5) (n := 1) (cs := [rfsC y, rfsC o.point, rfsC o.ray, rfsC o.dual, rfsC [most, o.value]]) J J sFracss (.one J J J J (.one J J J J (.one J J J J (.one J J J J (.one J J J J .nil))))) (by decide) J ?_
    refine QX gosmall35 hSm J J J J (Qe J J J (Q2 J J J J (Qv (hK _ _ (Qz (Xq J (Qy ?_))))))); clear hK K; refine Qx (fun K hK => ?_); refine QX goawake awake_ok J J J J (Qj J J J (Qv (hK _ _ (Qz (QU (QV ?_)))))); clear hK K; refine QY [_] rfl (Qu J QQ) J J
  | true =>
    rw [hsm] at hSm; unfold small35 at hsm; simp only [Bool.and_eq_true, decide_eq_true_eq, List.all_eq_true] at hsm; obtain ⟨⟨s1, s2⟩, s4, s5⟩ := hsm
    have hrw : ∀ r ∈ raw, r.cs.length < 4611686018427387904 := fun r hm => by have := s4 r hm; omega
    have hy : OkZ y := shortL_ok (s5 y (by simp)); have hmv : OkZ [most, o.value] := shortL_ok (s5 _ (by simp)); have hm : Sm most := hmv.2 _ (by simp); have ho : OkO o := ⟨hmv.2 _ (by simp), shortL_ok (s5 _ (by simp)), shortL_ok (s5 _ (by simp)), shortL_ok (s5 _ (by simp))⟩; clear s4 s5 hr hrl hcl hmv
    refine Ok.enter Tryz.func10 J _ Tryz.ntmps10 J ?_
    intro S w; have hB : Bytes (bs.take 400) := ⟨fun b h => (hb b (List.mem_of_mem_take h)).1, fun b h => (hb b (List.mem_of_mem_take h)).2, by simp; omega⟩; have hRoll := Roll_ok bs; generalize bs.take 400 = B0 at hB hRoll; refine Qy (Qx fun K hK => ?_); refine Qh 0 J J J J J J J (Qh 1 J J J J J J J (Qj J J J (Qv (hK _ _ (Qz (Qy (Qy ?_))))))); clear hK K; refine Qx (fun K hK => ?_); refine QX goawake awake_ok J J J J (Qe J J J (Qq J J J (Qq J J J (Qq J J J (Qq J J J (QW J J J fO2 J (QK J J J J J lFracs J (QW J J J fO3 J (QK J J J J J lFracs J (QW J J J fO4 J (QK J J J J J lFracs J (Qd (n := 3) J J J J J Qg J (QW J J J fO1 J (Z6 (n := 3) J J J J (Nat.le_of_ble_eq_true J) Qg J (ZY (m := 2) (n := 3) (cs := rfCs most ++ rfCs o.value) J J sFracs (.agg J J J J (.agg J J J J .nil)) (by decide) J ?_)))))))))))))))
    refine ZY (m := 5) (n := 1) (cs := [rfsC y, rfsC o.point, rfsC o.ray, rfsC o.dual, rfsC [most, o.value]]) J J sFracss (.one J J J J (.one J J J J (.one J J J J (.one J J J J (.one J J J J .nil))))) (by decide) J ?_
    refine QX gosmall35 hSm J J J J ?_
    clear hSm; refine Qe J J J (Q2 J J J J (Qv (hK _ _ (Qz (Qr J (Q0 (Qz (Qy ?_)))))))); clear hK K; refine Qx (fun K hK => ?_); refine Qq J J J (Zb 1 _ J J XV (Zb 0 _ J J XV (Ops.callN 0 goRoll hRoll J J J J J J (Qj J J J (Qv (hK _ _ (Qz (Qy ?_)))))))); clear hK K; refine Qx (fun K hK => ?_); refine Qq J J J (Xb goProgram (Program_ok B0 0 hB) J J J J J (fun q hq => ?_)); obtain ⟨N, rs, g, p1⟩ := q; obtain ⟨n0, n1, rl, hrs, cl, hc⟩ := hq; dsimp only at n0 n1 rl hrs cl hc ⊢; have hv := valid_dice n0 n1 (by omega) hrs; have hk := okc_in cl (fun y hy => by have := hc y hy; omega); obtain ⟨N, rfl, hL⟩ := lp_of hv hk; obtain ⟨O, RR, sO⟩ := ref_run hL rl; have hSo := rSolve_ok N rs g O hL rl hv hk RR; obtain ⟨X, eX, hX⟩ := sol_ro (by omega) rl sO
    have hSo : Ok Tryz.prog 28 [intC N, rowsC rs, intsC g] (.fr (tupT [roC X, intC 0])) := by
      rw [show roC X = ocC O from congrArg (fun l => CT.fr (aggT l)) eX.symm]; exact hSo
    have hP : ∀ p ∈ [rs, raw], p.length ≤ 6 ∧ ∀ r ∈ p, r.cs.length < 4611686018427387904 := by
      intro p hp; simp only [List.mem_cons, List.not_mem_nil, or_false] at hp; rcases hp with rfl | rfl
      · exact ⟨rl, fun r hr => by have := (hrs r hr).len; omega⟩
      · exact ⟨s1, hrw⟩
    have hQ : ∀ q ∈ [g, goal], q.length ≤ 64 ∧ ∀ y ∈ q, -9223372036854775808 ≤ y ∧ y ≤ 9223372036854775807 := by
      intro q hq; simp only [List.mem_cons, List.not_mem_nil, or_false] at hq; rcases hq with rfl | rfl
      · exact ⟨by omega, fun y hy => by have := hc y hy; omega⟩
      · exact ⟨by omega, hg⟩
    clear hrs hrw hv hk hL RR sO eX hc hg cl; refine Qq J J J (QZ J J J J (QZ J J J J (QZ J J J J (Qj J J J (Qj J J J (Qj J J J (Qv (hK _ _ (Qz (Qy ?_)))))))))); clear hK K; refine Qx (fun K hK => ?_); refine Qq J J J (Qq J J J (Qq J J J (QX gorSolve hSo J J J J ?_))); clear hSo; refine Qq J J J (QZ J J J J (QZ J J J J (Qa 2 J J zvOut J J J (Q8 7 J J J J J szOut J J (Qj J J J (Qv (hK _ _ (Qz (Qy ?_))))))))); clear hK K; refine Qx (fun K hK => ?_); refine Qd (n := 7) J J J J J lOut J (Qa 3 J J zvOut J J J (Q8 7 J J J J J szOut J J (Qv (hK _ _ (Qz (Qy (Qy ?_))))))); clear hK K; refine Qx (fun K hK => ?_); refine Qq J J J (Xb goNext (Next_ok B0 p1 5 (by omega) (by omega) hB) J J J J J (fun q hq => ?_)); obtain ⟨tg, p2⟩ := q; dsimp only at hq ⊢; refine Qv (hK _ _ ?_); clear hK K
    refine Qz (X6 2 _ J J XV (St.keep [(1, .ct (intC n)), (3, .ct (intsC goal)), (4, .ct (rfsC y)), (12, .ct (.fr (ptrT (rfCs most)))), (13, .ct (.fr (ptrT (roCs o)))), (15, .own 0), (16, .ct (intC N)), (18, .ct (intsC g)), (19, .ct (.fr (ptrT (roCs X)))), (2, .ct (rowsC raw)), (17, .ct (rowsC rs)), (21, .own 3), (83, .ct (intC tg))] ⟨rfl, rfl, rfl, rfl, rfl, rfl, rfl, rfl, rfl, rfl, rfl, rfl, rfl, trivial⟩ (Zq (α := Ro × Nat) (fun s => OkO s.1) (fun _ => [(1, .ct (intC n)), (3, .ct (intsC goal)), (4, .ct (rfsC y)), (12, .ct (.fr (ptrT (rfCs most)))), (13, .ct (.fr (ptrT (roCs o)))), (15, .own 0), (16, .ct (intC N)), (18, .ct (intsC g)), (19, .ct (.fr (ptrT (roCs X)))), (2, .ct (rowsC raw)), (17, .ct (rowsC rs)), (21, .own 3)]) (fun s => [(3, .box 46 (roCs s.1)), (0, .box 82 (codes B0 s.2))]) (fun s hodd => ?_) (fun KK hN => ?_)))); rotate_left
    · obtain ⟨xk, xv, xp, xr, xd⟩ := X; obtain ⟨x1, x2, x3, x4⟩ := hX; dsimp only at x1 x2 x3 x4; refine Q4 (Qy (Qx fun K hK => ?_)); refine Qk ieql J J J J (Qj J J J (Qv (hK _ _ (Qz ?_)))); clear hK K; refine Q1 J (fun h0 => ?_) (fun h0 => ?_)
      · skip; refine Qx (fun K hK => ?_); refine Qq J J J (Xb goNext (Next_ok B0 p2 5 (by omega) (by omega) hB) J J J J J (fun q hq2 => ?_)); obtain ⟨a, p3⟩ := q; dsimp only at hq2 ⊢; refine QW J J J fO0 J (Xv J J J J J zInt (Nat.le_of_ble_eq_true J) (Qv (hK _ _ (XJ ?_)))); clear hK K; exact XW hN ((⟨a, xv, xp, xr, xd⟩ : Ro), p3) ⟨x1, x2, x3, x4⟩ (by exact QJ J ⟨rfl, rfl, rfl, rfl, rfl, rfl, rfl, rfl, rfl, rfl, rfl, rfl, trivial⟩)
      refine Qy (Qx fun K hK => ?_); refine Qk ieql J J J J (Qj J J J (Qv (hK _ _ (Qz ?_)))); clear hK K; refine Q1 J (fun h1 => ?_) (fun h1 => ?_)
      · skip; refine Qx (fun K hK => ?_); refine Qq J J J (Xb goNext (Next_ok B0 p2 9 (by omega) (by omega) hB) J J J J J (fun q hq2 => ?_)); obtain ⟨a, p3⟩ := q; dsimp only at hq2 ⊢; have hW : Ok Tryz.prog 46 [intC a] (fracC (tf (12 * a))) := lwhole_ok a (by omega) (by omega); have hF := (tf_f6 (m := 12 * a) (by omega) (by omega)).f9.sm; generalize tf (12 * a) = fa at hF hW; refine QX gowhole hW J J J J (QW J J J fO1 J (Ops.stNA J J J J J szFrac (Nat.le_of_ble_eq_true J) (Qv (hK _ _ (XJ ?_))))); clear hK K; exact XW hN ((⟨xk, rfOf fa, xp, xr, xd⟩ : Ro), p3) ⟨hF, x2, x3, x4⟩ (by exact QJ J ⟨rfl, rfl, rfl, rfl, rfl, rfl, rfl, rfl, rfl, rfl, rfl, rfl, trivial⟩)
      refine Qy (Qx fun K hK => ?_); refine Qk ieql J J J J (Qj J J J (Qv (hK _ _ (Qz ?_)))); clear hK K; refine Q1 J (fun h2 => ?_) (fun h2 => ?_)
      · skip; refine Qx (fun K hK => ?_); refine Qq J J J (Qq J J J (Q3 J J sRows.und (List.length_map ..) J (Xb goFractions (Yr B0 p2 rs.length (by omega) (by omega) hB) J J J J J (fun q hq3 => ?_)))); obtain ⟨ms, p3⟩ := q; obtain ⟨hq4, hq5⟩ := hq3; dsimp only at hq4 hq5 ⊢; have hz3 := tfs_okZ (by omega) hq5; generalize (ms.map tf).map rfOf = z3 at hz3 ⊢; refine QW J J J fO4 J (Xv J J J J J zFracs (Nat.le_of_ble_eq_true J) (Qv (hK _ _ (XJ ?_)))); clear hK K; exact XW hN ((⟨xk, xv, xp, xr, z3⟩ : Ro), p3) ⟨x1, x2, x3, hz3⟩ (by exact QJ J ⟨rfl, rfl, rfl, rfl, rfl, rfl, rfl, rfl, rfl, rfl, rfl, rfl, trivial⟩)
      refine Qy (Qx fun K hK => ?_); refine Qk ieql J J J J (Qj J J J (Qv (hK _ _ (Qz ?_)))); clear hK K; refine Q1 J (fun h3 => ?_) (fun h3 => ?_)
      · skip; refine Qx (fun K hK => ?_); refine Qq J J J (Qq J J J (Xb goFractions (Yr B0 p2 N (by omega) (by omega) hB) J J J J J (fun q hq3 => ?_))); obtain ⟨ms, p3⟩ := q; obtain ⟨hq4, hq5⟩ := hq3; dsimp only at hq4 hq5 ⊢; have hz3 := tfs_okZ (by omega) hq5; generalize (ms.map tf).map rfOf = z3 at hz3 ⊢; refine QW J J J fO2 J (Xv J J J J J zFracs (Nat.le_of_ble_eq_true J) (Qv (hK _ _ (XJ ?_)))); clear hK K; exact XW hN ((⟨xk, xv, z3, xr, xd⟩ : Ro), p3) ⟨x1, hz3, x3, x4⟩ (by exact QJ J ⟨rfl, rfl, rfl, rfl, rfl, rfl, rfl, rfl, rfl, rfl, rfl, rfl, trivial⟩)
      refine Qy (Qx fun K hK => ?_); refine Qk ieql J J J J (Qj J J J (Qv (hK _ _ (Qz ?_)))); clear hK K; refine Q1 J (fun h4 => ?_) (fun h4 => ?_)
      · skip; refine Qx (fun K hK => ?_); refine Qq J J J (Qq J J J (Qq J J J (Qk (iadd (by omega) (by omega)) J J J J ?_))); refine Xb goNext (Next_ok B0 p2 (N + 1) (by omega) (by omega) hB) J J J J J (fun q hq2 => ?_); obtain ⟨a, p4⟩ := q; dsimp only at hq2 ⊢; refine Xb goFractions (Yr B0 p4 a (by omega) (by omega) hB) J J J J J (fun q hq3 => ?_); obtain ⟨ms, p3⟩ := q; obtain ⟨hq4, hq5⟩ := hq3; dsimp only at hq4 hq5 ⊢; have hz3 := tfs_okZ (by omega) hq5; generalize (ms.map tf).map rfOf = z3 at hz3 ⊢; refine QW J J J fO3 J (Xv J J J J J zFracs (Nat.le_of_ble_eq_true J) (Qv (hK _ _ (XJ ?_)))); clear hK K; exact XW hN ((⟨xk, xv, xp, z3, xd⟩ : Ro), p3) ⟨x1, x2, hz3, x4⟩ (by exact QJ J ⟨rfl, rfl, rfl, rfl, rfl, rfl, rfl, rfl, rfl, rfl, rfl, rfl, trivial⟩)
      exact absurd hq (by omega)
    obtain ⟨odd, p3⟩ := s; dsimp only at hodd ⊢; refine X6 3 _ J J XV (St.keep [(2, .ct (rowsC raw)), (17, .ct (rowsC rs)), (1, .ct (intC n)), (3, .ct (intsC goal)), (4, .ct (rfsC y)), (12, .ct (.fr (ptrT (rfCs most)))), (13, .ct (.fr (ptrT (roCs o)))), (15, .own 0), (16, .ct (intC N)), (18, .ct (intsC g)), (19, .ct (.fr (ptrT (roCs X)))), (21, .ct (.fr (ptrT (roCs odd))))] ⟨rfl, rfl, rfl, rfl, rfl, rfl, rfl, rfl, rfl, rfl, rfl, rfl, trivial⟩ ?_)
    exact FarkasChecks_t2 B0 hB p3 n raw goal y most o N rs g X odd hP hQ hy hm (fun O hO => by
      simp only [List.mem_cons, List.not_mem_nil, or_false] at hO; rcases hO with rfl | rfl | rfl
      · exact hX
      · exact hodd
      · exact ho) S w
end Go.Proofs.YtdhmbgogmoaofaaGreat
namespace Go.Proofs.YtdhmbgogmoaofaaGreat.farkasChecks
open Go.ChangeShapes Go.WideShapes Go.ChangeAt Go.RowKit
open Go.ChangeMaps (open_string shut_string)
set_option linter.unusedVariables false
theorem own : ownKnob Tryz.prog.godebug = none := by kernel_rfl
theorem laidOut : laidOutB Tryz.prog = true := by kernel_rfl
set_option maxRecDepth 100000 in
theorem lifted (os : Os) (started : os.Started) (H : Type) (enc : TypeId × Value → H) :
    ReturnsInHanded {} Tryz.checked os 10 .any (Rows.farkasChecksSpec.pre6 enc Tryz.prog Tryz.f10 Rows.farkasChecksRow.domain false) (Rows.farkasChecksSpec.post enc Tryz.prog Tryz.f10 false true false false) := by
  refine returnsInHanded_of_change (C := Tryz.checked) own started (by kernel_rfl) Tryz.func10
    (ChangeSpec.witness6 (enc := enc) (C := Tryz.checked) false ⟨#[], #[.slice none 0 0, .int .i64 0, .slice none 0 0, .slice none 0 0, .slice none 0 0, .agg #[.bool false, .slice none 0 0, .slice none 0 0], .agg #[.int .i64 0, .bool false, .slice none 0 0, .slice none 0 0, .slice none 0 0, .slice none 0 0, .slice none 0 0]], []⟩ 8 (by kernel_rfl) (by kernel_rfl) (by kernel_rfl) (by kernel_rfl)) ?_
  intro W base args ds gs before hval0 hW hcnd _; have hval : ∀ (j : Nat) t v, Tryz.f10.params[j]? = some t → args[j]? = some v → Value.okWide Tryz.prog W .any base t v := hval0; have hW' := hW; obtain ⟨p, q, hA0, hV, rfl, hfz, hnd⟩ := hW; have hA : DataW.TrodAll enc Tryz.prog W 0 (fun _ => true) true Tryz.f10.params.toList args.toList ds p := hA0; rw [Tryz.params10] at hA hval; obtain ⟨v0, vs0, d0, ds0, p0, q0, hargs0, rfl, rfl, h0, r0⟩ := trodAll_cons hA; obtain ⟨v1, vs1, d1, ds1, p1, q1, hargs1, rfl, rfl, h1, r1⟩ := trodAll_cons r0; obtain ⟨v2, vs2, d2, ds2, p2, q2, hargs2, rfl, rfl, h2, r2⟩ := trodAll_cons r1; obtain ⟨v3, vs3, d3, ds3, p3, q3, hargs3, rfl, rfl, h3, r3⟩ := trodAll_cons r2; obtain ⟨v4, vs4, d4, ds4, p4, q4, hargs4, rfl, rfl, h4, r4⟩ := trodAll_cons r3; obtain ⟨v5, vs5, d5, ds5, p5, q5, hargs5, rfl, rfl, h5, r5⟩ := trodAll_cons r4; obtain ⟨v6, vs6, d6, ds6, p6, q6, hargs6, rfl, rfl, h6, r6⟩ := trodAll_cons r5; obtain ⟨rfl, rfl, rfl⟩ := trodAll_nil r6
  obtain rfl : args = #[v0, v1, v2, v3, v4, v5, v6] := by cases args; simp_all
  obtain ⟨rfl, rfl⟩ := trodVars_none hV; obtain ⟨a0, len0, cap0, rfl⟩ := okWide_slice Tryz.underlying22 (hval 0 22 v0 rfl rfl); have k0 := h0
  have lt0 : ∀ x ∈ p0, x.block < W.heap.size := by obtain ⟨m, hm⟩ := k0; exact DataW.trod_lt m _ _ _ hm
  obtain ⟨f0, t0⟩ := h0; obtain ⟨u0, z0, e0, c0, w0⟩ := bytes_in Tryz.underlying22 Tryz.underlying5 (by kernel_rfl) t0
  have e0 : Value.slice a0 len0 cap0 = u0 := by simpa [Value.cells] using e0
  subst e0; obtain ⟨a1, rfl, rfl, rfl, w1⟩ := open_int Tryz.underlying3 (hval 1 3 v1 rfl rfl) h1; obtain ⟨a2, len2, cap2, rfl⟩ := okWide_slice Tryz.underlying23 (hval 2 23 v2 rfl rfl); have k2 := h2
  have lt2 : ∀ x ∈ p2, x.block < W.heap.size := by obtain ⟨m, hm⟩ := k2; exact DataW.trod_lt m _ _ _ hm
  obtain ⟨f2, t2⟩ := h2; obtain ⟨u2, z2, e2, b2, c2, w2⟩ := rows_in t2
  have e2 : Value.slice a2 len2 cap2 = u2 := by simpa [Value.cells] using e2
  subst e2; obtain ⟨a3, len3, cap3, rfl⟩ := okWide_slice Tryz.underlying24 (hval 3 24 v3 rfl rfl); have k3 := h3
  have lt3 : ∀ x ∈ p3, x.block < W.heap.size := by obtain ⟨m, hm⟩ := k3; exact DataW.trod_lt m _ _ _ hm
  obtain ⟨f3, t3⟩ := h3; obtain ⟨u3, z3, e3, b3, c3, w3⟩ := ints_in Tryz.underlying24 Tryz.underlying3 (by kernel_rfl) t3
  have e3 : Value.slice a3 len3 cap3 = u3 := by simpa [Value.cells] using e3
  subst e3; obtain ⟨a4, len4, cap4, rfl⟩ := okWide_slice Tryz.underlying25 (hval 4 25 v4 rfl rfl); have k4 := h4
  have lt4 : ∀ x ∈ p4, x.block < W.heap.size := by obtain ⟨m, hm⟩ := k4; exact DataW.trod_lt m _ _ _ hm
  obtain ⟨f4, t4⟩ := h4; obtain ⟨u4, z4, e4, b4, c4, w4⟩ := fracs_in t4
  have e4 : Value.slice a4 len4 cap4 = u4 := by simpa [Value.cells] using e4
  subst e4; obtain ⟨cs5, rfl⟩ := agg_in Tryz.underlying38 (hval 5 38 v5 rfl rfl); have k5 := h5
  have lt5 : ∀ x ∈ p5, x.block < W.heap.size := by obtain ⟨m, hm⟩ := k5; exact DataW.trod_lt m _ _ _ hm
  obtain ⟨f5, t5⟩ := h5; obtain ⟨z5, w5, b5⟩ := frac_cells (cs := cs5) t5; obtain ⟨cs6, rfl⟩ := agg_in Tryz.underlying46 (hval 6 46 v6 rfl rfl); have k6 := h6
  have lt6 : ∀ x ∈ p6, x.block < W.heap.size := by obtain ⟨m, hm⟩ := k6; exact DataW.trod_lt m _ _ _ hm
  obtain ⟨f6, t6⟩ := h6; obtain ⟨z6, w6, b6⟩ := out_cells (cs := cs6) t6; clear hA0 hval0
  refine (((FarkasChecks_ok z0 a1 z2 z3 z4 z5 z6 c0  b2 c2 b3 c3 b4 c4 b5 b6) (fun _ => True) W [.slice a0 len0 cap0, .int .i64 a1, .slice a2 len2 cap2, .slice a3 len3 cap3, .slice a4 len4 cap4, .agg cs5.toArray, .agg cs6.toArray] (fun _ _ => trivial) ⟨w0, rfl, w2, w3, w4, ⟨cs5, rfl, w5⟩, ⟨cs6, rfl, w6⟩, trivial⟩)).mono fun e W' ⟨v, he, hv, bel⟩ => ?_
  have hv : v = .bool true := hv; subst hv he; exact ⟨_, rfl, _, _, _, [], _, [], hW', trodAll_mk1 (shut_bool Tryz.underlying4 _), (trodAll_cons_mk (Below.trod laidOut (by kernel_rfl) (of_decide_eq_true (by kernel_rfl)) k0 bel lt0) (trodAll_cons_mk (shut_int Tryz.underlying3 w1) (trodAll_cons_mk (Below.trod laidOut (by kernel_rfl) (of_decide_eq_true (by kernel_rfl)) k2 bel lt2) (trodAll_cons_mk (Below.trod laidOut (by kernel_rfl) (of_decide_eq_true (by kernel_rfl)) k3 bel lt3) (trodAll_cons_mk (Below.trod laidOut (by kernel_rfl) (of_decide_eq_true (by kernel_rfl)) k4 bel lt4) (trodAll_cons_mk (Below.trod laidOut (by kernel_rfl) (of_decide_eq_true (by kernel_rfl)) k5 bel lt5) (trodAll_cons_mk (Below.trod laidOut (by kernel_rfl) (of_decide_eq_true (by kernel_rfl)) k6 bel lt6) trodAll_mk0))))))), rfl, bel.frame _, fun h => by cases h⟩
theorem over : Rows.farkasChecksRow.holds Tryz.pinned (OpenSpec.ofChange Rows.farkasChecksSpec) :=
  OpenClaim.holds_of_wide 10 Tryz.f10 rfl rfl rfl rfl rfl rfl rfl ⟨rfl, rfl, rfl, rfl, rfl⟩ rfl rfl rfl rfl rfl (by kernel_rfl) Tryz.func10 (by kernel_rfl)
    (of_decide_eq_true (by kernel_rfl)) (by unfold Func.isWrapper; first | (rw [if_pos (by decide +kernel)]; kernel_rfl) | (rw [if_neg (by decide +kernel)]; exact ⟨rfl, rfl⟩))
    (fun os started H enc _ => lifted os started H enc)
theorem proved : Rows.FarkasChecksSaid := over
#print axioms proved
end Go.Proofs.YtdhmbgogmoaofaaGreat.farkasChecks
