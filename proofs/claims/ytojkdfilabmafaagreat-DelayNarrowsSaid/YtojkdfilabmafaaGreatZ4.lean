/- The proof that DelayNarrows holds for every input, without conditions: part 4 of 7. -/
import Derived.Test.YtojkdfilabmafaaGreatZ3
namespace Go.Proofs.YtojkdfilabmafaaGreat
open Go.Own Go.Limbs
attribute [local irreducible] St Ops Go.Own.Fin Ok OkM
def IsH (m : Nat) (v : Value) : Prop := (m = 0 ∧ v = .slice none 0 0) ∨ (0 < m ∧ ∃ gb c, m ≤ c ∧ c ≤ maxLen ∧ v = .slice (some ⟨gb, 0, none⟩) m c)
theorem IsH.one{m:Nat}{v:Value}(h:IsH m v):v.oneCell' =true:=by
  rcases h with ⟨_,rfl⟩|⟨_,gb,c,_,_,rfl⟩ <;>rfl
def Okc (xs : List Int) : Prop := ∀ x ∈ xs, -1152921504606846976 ≤ x ∧ x ≤ 1152921504606846976
theorem Okc.get{xs:List Int}(h:Okc xs)(i:Nat): -1152921504606846976≤xs.getD i 0∧xs.getD i 0≤1152921504606846976:=by
  rw [List.getD_eq_getElem?_getD]
  cases e:xs[i]? with
  |none=>decide
  |some x=>exact h x (List.mem_of_getElem? e)
structure OkRw (n : Nat) (r : Rw) : Prop where
  len : r.cs.length ≤ n
  cs : Okc r.cs
  b1 : -1152921504606846976 ≤ r.b
  b2 : r.b ≤ 1152921504606846976
structure Bgn (n : Nat) (rs : List Rw) (c : List Int) (T : Tv) : Prop where
  rows : T.rows = (rs.map fun r => lnOf n r.cs r.b) ++ [lnOf n (c.map fun x => -x) 0]
  bas : T.bas = rng n rs.length
  col : T.col = rng 0 n
  den : T.den = 1
  hl : T.hl.length = rs.length + 1
  lines : ∀ h ∈ T.hl, ∃ gb, h = .slice (some ⟨gb, 0, none⟩) (n + 1) (n + 1)
  hR : IsH (rs.length + 1) T.hR
  hB : IsH rs.length T.hB
  hC : IsH n T.hC
abbrev tb0 (hR hB hC : Value) : List CT := [.ex hR, .ex hB, .ex hC, boolC (decide ((1 : Int) < 0)), natC (1 : Int).natAbs]
theorem start_B{e0 e1 e2 e3:Ent}:∀j,bget ((0,e0)::(1,e1)::(2,e2)::(3,e3)::linesB 10 [] ([].map fun r:Rw=>lnOf 0 r.cs r.b)) j=bget [(3,e3),(2,e2),(1,e1),(0,e0)] j:=fun j=>by
  match j with
  |0=>rfl
  |1=>rfl
  |2=>rfl
  |3=>rfl
  |j+4=>rfl
theorem step_B{e4 e0 e1 e2 e3:Ent}{hl:List Value}{zs:List (List Int)}{h:Value}{y:List Int}(he:hl.length=zs.length):∀j,bget ((0,e0)::(1,e1)::(2,e2)::(3,e3)::linesB 10 (hl++ [h]) (zs++ [y])) j=bget (bdel ((hl.length+10, .rowx h 211 2 (whs y))::(4,e4)::(0,e0)::(1,e1)::(2,e2)::(3,e3)::linesB 10 hl zs) 4) j:=fun j=>by
  by_cases h4:j=4
  · subst h4;rw [Zj];exact Z1 10 _ _ 4 (by decide)
  · rw [XK _ h4]
    match j,h4 with
    |0,_=>exact (QU ((4,e4)::(0,e0)::(1,e1)::(2,e2)::(3,e3)::linesB 10 hl zs) (.rowx h 211 2 (whs y)) (show hl.length+10≠0 by omega)).symm
    |1,_=>exact (QU ((4,e4)::(0,e0)::(1,e1)::(2,e2)::(3,e3)::linesB 10 hl zs) (.rowx h 211 2 (whs y)) (show hl.length+10≠1 by omega)).symm
    |2,_=>exact (QU ((4,e4)::(0,e0)::(1,e1)::(2,e2)::(3,e3)::linesB 10 hl zs) (.rowx h 211 2 (whs y)) (show hl.length+10≠2 by omega)).symm
    |3,_=>exact (QU ((4,e4)::(0,e0)::(1,e1)::(2,e2)::(3,e3)::linesB 10 hl zs) (.rowx h 211 2 (whs y)) (show hl.length+10≠3 by omega)).symm
    |j+5,_=>
      show bget (linesB 10 (hl++ [h]) (zs++ [y])) (j+5)=_
      rw [lines_snoc 10 hl zs h y he]
      by_cases h5:hl.length+10=j+5
      · rw [h5,Qd,Qd]
      · rw [QU _ _ h5,QU _ _ h5];rfl
theorem step_B2{e0 e1 e2 e3:Ent}{hl:List Value}{zs:List (List Int)}{h:Value}{y:List Int}(he:hl.length=zs.length):∀j,bget ((0,e0)::(1,e1)::(2,e2)::(3,e3)::linesB 10 (hl++ [h]) (zs++ [y])) j=bget ((hl.length+10, .rowx h 211 2 (whs y))::(0,e0)::(1,e1)::(2,e2)::(3,e3)::linesB 10 hl zs) j:=fun j=>by
  match j with
  |0=>exact (QU ((0,e0)::(1,e1)::(2,e2)::(3,e3)::linesB 10 hl zs) (.rowx h 211 2 (whs y)) (show hl.length+10≠0 by omega)).symm
  |1=>exact (QU ((0,e0)::(1,e1)::(2,e2)::(3,e3)::linesB 10 hl zs) (.rowx h 211 2 (whs y)) (show hl.length+10≠1 by omega)).symm
  |2=>exact (QU ((0,e0)::(1,e1)::(2,e2)::(3,e3)::linesB 10 hl zs) (.rowx h 211 2 (whs y)) (show hl.length+10≠2 by omega)).symm
  |3=>exact (QU ((0,e0)::(1,e1)::(2,e2)::(3,e3)::linesB 10 hl zs) (.rowx h 211 2 (whs y)) (show hl.length+10≠3 by omega)).symm
  |j+4=>
    show bget (linesB 10 (hl++ [h]) (zs++ [y])) (j+4)=_
    rw [lines_snoc 10 hl zs h y he]
    by_cases h5:hl.length+10=j+4
    · rw [h5,Qd,Qd]
    · rw [QU _ _ h5,QU _ _ h5];rfl
theorem lnP_all(n:Nat)(cs:List Int)(h:cs.length≤n):lnP n cs cs.length=lnOf n cs 0:=by
  have:=lnP_done n cs 0 h;rw [←this];unfold lnP
  symm
  refine YY _ _ _ n _ (by omega) (fun j hj=> ?_);by_cases e:j=n
  · subst e;rw [if_pos rfl,if_neg (by omega)]
  · rw [if_neg e]
theorem gobegin:InGo Tryz.prog 138:=InGo.of Tryz.func138 (by kernel_rfl) (by kernel_rfl)
set_option maxHeartbeats 32000000 in
theorem begin_ok(n:Nat)(rs:List Rw)(c:List Int)(hn:n≤50)(hm:rs.length≤90)(hr:∀r∈rs,OkRw n r)(hc:Okc c)(hcl:c.length≤n):OkM Tryz.prog 138 [.ct (intC n), .ct (rowsC rs), .ct (intsC c)] [] [] (Bgn n rs c) (fun _=> .own 0) (fun T=>tabB T):=by
  have hof1:=of_ok 1 (by decide) (by decide)
  refine OkM.enter Tryz.func138 J _ Tryz.ntmps138 J (fun i hi=>by cases hi) ?_
  intro S w ρ0 hbor;refine Qy (Qx fun K hK=> ?_);refine Qv J J J (Qj (hK _ _ (Qz (Qy ?_))));clear hK K;refine Qx (fun K hK=> ?_);refine QV goof hof1 J J J J (Qo J bTab J (.agg J J J J .nil) J (Xu 0 J J J J J J J (Qv J J J (Qj (hK _ _ (Qz (Qy (Qy ?_))))))));clear hK K;refine Qx (fun K hK=> ?_);refine Qq J J J (Qq J J J (Qj (hK _ _ (Qz (Q3 ?_)))));clear hK K;refine St.nilX 1 212 1 J J (St.nilX 2 3 1 J J (St.nilX 3 3 1 J J ?_))
  refine Qs (α:=Nat × Value) (fun x=>x.1≤n∧IsH x.1 x.2)
    (fun x=>[(0, .ct (intC n)),(1, .ct (rowsC rs)),(2, .ct (intsC c)),(7, .own 0),(20, .ct (intC n)),(21, .ct (intC x.1))])
    (fun x=>[(3, .rowx x.2 3 1 (ints (rng 0 x.1))),(2, .rowx (.slice none 0 0) 3 1 []),(1, .rowx (.slice none 0 0) 212 1 []),(0, .box 215 (tb0 (.slice none 0 0) (.slice none 0 0) x.2))])
    (fun x=>n - x.1) (0, .slice none 0 0) ⟨Nat.zero_le _, .inl ⟨rfl,rfl⟩⟩ (by exact Qu J ⟨rfl,rfl,rfl,rfl,rfl,rfl,trivial⟩) ?_
  rintro ⟨j,hC⟩ ⟨hj,hH⟩
  dsimp only at hj hH ⊢;have hone:=hH.one;refine Qy (Qx fun K hK=> ?_);refine Qk ilss J J J J (Qj (hK _ _ (Qz (Qy ?_))));clear hK K;refine Q2 J (fun h=> ?_) (fun h=> ?_)
  · refine QW (Qz (Qy (Q3 (Qy (Qx fun K hK=> ?_)))));refine Qq J J J (Qv J J J (Qj (hK _ _ (Qz ?_))));clear hK K;refine Qx (fun K hK=> ?_);refine Qq J J J (Qq J J J (Q0 J J J J (QJ J J J fT2 J (QQ J J J J J lInts J (Qq J J J (Xh J J sInts J J J (X4 28 3 J J (Qt j (ints (rng 0 (j+1))) J J J J sInts (by simp [X0]) J (by omega) (by omega) (by rw [Zh,ZU,Nat.zero_add];rfl) J ?_))))))));refine XY 31 3 (j+1) J J (by simp [X0]) (by omega) (by decide) (fun gb cc hc1 hc2=> ?_);refine Q0 J J J J (QJ J J J fT2 J (Xj J J J J J zInts (Nat.le_of_ble_eq_true J) (Qj (hK _ _ (Qz ?_)))));clear hK K;refine Qx (fun K hK=> ?_)
    refine Qk (iadd (by omega) (by omega)) J J J J ?_
    refine Qq J J J (Qj (hK _ _ (Q6 ?_)));clear hK K;refine Q9 (j+1,_) (by dsimp only;omega) ⟨by dsimp only;omega, .inr ⟨by dsimp only;omega,gb,cc,hc1,hc2,rfl⟩⟩ (by exact Qu J ⟨rfl,rfl,rfl,rfl,rfl,by simp only [Int.natCast_add];rfl,trivial⟩)
  have hjn:j=n:=by omega
  subst hjn;refine Qm (Qz (Qy (Qy (Qx fun K hK=> ?_))));refine Qq J J J (Qh J J sRows.und (List.length_map ..) J (Qq J J J (Qj (hK _ _ (Qz (Q3 ?_))))));clear hK K
  refine Qs (α:=Value × Value × List Value) (fun x=>x.2.2.length≤rs.length∧IsH x.2.2.length x.1∧IsH x.2.2.length x.2.1∧∀h∈x.2.2,∃gb,h= .slice (some ⟨gb,0,none⟩) (j+1) (j+1))
    (fun x=>[(0, .ct (intC j)),(1, .ct (rowsC rs)),(2, .ct (intsC c)),(7, .own 0),(35, .ct (rowsC rs)),(36, .ct (intC rs.length)),(37, .ct (intC x.2.2.length))])
    (fun x=>(0, .box 215 (tb0 x.1 x.2.1 hC))::(1, .rowx x.1 212 1 (x.2.2.map CT.ex))::(2, .rowx x.2.1 3 1 (ints (rng j x.2.2.length)))::(3, .rowx hC 3 1 (ints (rng 0 j)))::linesB 10 x.2.2 ((rs.take x.2.2.length).map fun r=>lnOf j r.cs r.b))
    (fun x=>rs.length - x.2.2.length) (.slice none 0 0, .slice none 0 0,[]) ⟨Nat.zero_le _, .inl ⟨rfl,rfl⟩, .inl ⟨rfl,rfl⟩,fun h hh=>by cases hh⟩ (by exact Y9 start_B ⟨rfl,rfl,rfl,rfl,rfl,rfl,rfl,trivial⟩) ?_
  rintro ⟨hR,hB,hl⟩ ⟨hi,hHR,hHB,hlines⟩
  dsimp only at hi hHR hHB hlines ⊢;have oneR:=hHR.one;have oneB:=hHB.one
  have hrl:((rs.take hl.length).map fun r=>lnOf j r.cs r.b).length=hl.length:=by simp;omega
  refine Qy (Qx fun K hK=> ?_);refine Qk ilss J J J J (Qj (hK _ _ (Qz (Qy ?_))));clear hK K;refine Q2 J (fun h=> ?_) (fun h=> ?_)
  · have hi2:hl.length<rs.length:=by omega
    have hrw:OkRw j (rs.getD hl.length rw0):=hr _ (by rw [List.getD_eq_getElem?_getD,List.getElem?_eq_getElem hi2];exact List.getElem_mem hi2)
    have etake:(rs.take (hl.length+1)).map (fun r=>lnOf j r.cs r.b)=(rs.take hl.length).map (fun r=>lnOf j r.cs r.b)++ [lnOf j (rs.getD hl.length rw0).cs (rs.getD hl.length rw0).b]:=by
      rw [List.take_succ_eq_append_getElem hi2,List.map_append,List.map_singleton,List.getD_eq_getElem?_getD,List.getElem?_eq_getElem hi2];rfl
    have kl:((hl.length:Int)).toNat=hl.length:=Int.toNat_natCast _;refine QW (Qz (Qy (Q3 (Qy (Qx fun K hK=> ?_)))));refine Qq J J J (Xx J J J sRows (by omega) (rows_at (by omega) (by omega)) J ?_);rw [kl];generalize rs.getD hl.length rw0=rw at*;generalize (rs.take hl.length).map (fun r=>lnOf j r.cs r.b)=zs at*;have hlen:=hrw.len;have hcs:=hrw.cs;have hb1:=hrw.b1;have hb2:=hrw.b2;refine Xc (n:=2) J J J lRow J J (Qf 4 J J zvRowW J (by exact Z1 10 _ _ 4 (by decide)) J ?_);refine Qv J J J (Qa 2 J J J J J szRow J J (Qj (hK _ _ (Qz (Qy ?_)))));clear hK K;refine Qx (fun K hK=> ?_);refine Qq J J J (Qk (iadd (by omega) (by omega)) J J J J ?_);refine Ops.makeX (hl.length+10) (j+1) J J J (by omega) sWhs (by omega) (by omega) J (by exact lines_ge (.inl (Nat.le_refl _))) J (fun gb=> ?_)
    refine Ops.weakX (hl.length+10) (whs (List.replicate (j+1) 0)) (Qd ..) (whs_zero (j+1)) ?_
    rw [Z0];refine Qv J J J (Qj (hK _ _ (Qz (Qy (Qy ?_)))));clear hK K;refine Qx (fun K hK=> ?_);refine QJ J J J fR0 J (QQ J J J J J lInts J (Qh J J sInts.und (List.length_map ..) J (Qq J J J (Qj (hK _ _ (Qz (Q3 ?_)))))));clear hK K
    refine Qs (α:=Nat) (fun q=>q≤rw.cs.length)
      (fun q=>[(0, .ct (intC j)),(1, .ct (rowsC rs)),(2, .ct (intsC c)),(7, .own 0),(9, .ct (intC hl.length)),(10, .own 4),(11, .ct (.ex (.slice (some ⟨gb,0,none⟩) (j+1) (j+1)))),(35, .ct (rowsC rs)),(36, .ct (intC rs.length)),(37, .ct (intC hl.length)),(46, .ct (intsC rw.cs)),(47, .ct (intC rw.cs.length)),(48, .ct (intC q))])
      (fun q=>(hl.length+10, .rowx (.slice (some ⟨gb,0,none⟩) (j+1) (j+1)) 211 2 (whs (lnP j rw.cs q)))::(4, .box 79 (rwCs rw))::(0, .box 215 (tb0 hR hB hC))::(1, .rowx hR 212 1 (hl.map CT.ex))::(2, .rowx hB 3 1 (ints (rng j hl.length)))::(3, .rowx hC 3 1 (ints (rng 0 j)))::linesB 10 hl zs)
      (fun q=>rw.cs.length - q) 0 (Nat.zero_le _) (by exact Qu (by rw [lnP_zero];rfl) ⟨rfl,rfl,rfl,rfl,rfl,rfl,rfl,rfl,rfl,rfl,rfl,rfl,rfl,trivial⟩) ?_
    intro q hq
    (try dsimp only at hq ⊢)
    have hpl:=lnP_len j rw.cs q;refine Qy (Qx fun K hK=> ?_);refine Qk ilss J J J J (Qj (hK _ _ (Qz (Qy ?_))));clear hK K;refine Q2 J (fun h2=> ?_) (fun h2=> ?_)
    · have kq:(q:Int).toNat=q:=Int.toNat_natCast _
      have kq2:(q:Int).toNat*2=q*2:=by omega
      have bq:=hcs.get q;have eset:=lnP_set j rw.cs q (by omega);refine QW (Qz (Qy (Q3 (Qy (Qx fun K hK=> ?_)))));refine Qq J J J (Xx J J J sInts (by omega) (Xs (by omega) (by omega)) J ?_);refine X1 J J J lInt J (Qv J J J (Qv J J J (Qj (hK _ _ (Qz ?_)))));clear hK K;refine Qx (fun K hK=> ?_);refine Qq J J J (Qq J J J (Qq J J J ?_));rw [kq]
      refine QV goof (of_ok _ (by omega) (by omega)) J J J J ?_
      refine Qp (hl.length+10) (j+1) J J (Qd ..) (by rw [XV,hpl]) J sWhs (by omega) (by omega) J ?_
      rw [kq2]
      refine stWhX J J (Qd ..) J (by omega) szWh ?_
      rw [Z0,eset];refine Qj (hK _ _ (Qz ?_));clear hK K;refine Qx (fun K hK=> ?_)
      refine Qk (iadd (by omega) (by omega)) J J J J ?_
      refine Qq J J J (Qj (hK _ _ (Q6 ?_)));clear hK K;refine Q9 (q+1) (by omega) (by omega) (by exact Qu J ⟨rfl,rfl,rfl,rfl,rfl,rfl,rfl,rfl,rfl,rfl,rfl,rfl,by simp only [Int.natCast_add];rfl,trivial⟩)
    have hq' :q=rw.cs.length:=by omega
    subst hq'
    have kj2:(j:Int).toNat*2=j*2:=by omega
    have edone:=lnP_done j rw.cs rw.b hlen;generalize lnP j rw.cs rw.cs.length=cur at*;refine Qm (Qz (Qy (Qx fun K hK=> ?_)));refine Qq J J J (Qq J J J (QJ J J J fR1 J (QQ J J J J J lInt J (QV goof (of_ok _ (by omega) (by omega)) J J J J ?_))))
    refine Qp (hl.length+10) (j+1) J J (Qd ..) (by rw [XV,hpl]) J sWhs (by omega) (by omega) J ?_
    rw [kj2]
    refine stWhX J J (Qd ..) J (by omega) szWh ?_
    rw [Z0,edone];generalize lnOf j rw.cs rw.b=line at*;refine Qj (hK _ _ (Qz ?_));clear hK K
    refine Yy mixed [8,17,20,23] (.p 0 (.p 1 (.p 2 (.p 3 (.p 4 (.p 6 (.p 9 (.p 10 (.p 11 (.p 13 (.p 14 (.p 15 (.f 5 (.m 7 (.a 8 (.m 12 (.m 16 (.a 17 (.p 18 (.p 19 (.a 20 (.p 21 (.p 22 (.a 23 .done .non))) .non))) .non) .non) (.m 16 (.m 12 (.a 17 (.p 18 (.p 19 (.a 20 (.p 21 (.p 22 (.a 23 .done .non))) .non))) .non) .non) .non)) (.m 12 (.a 8 (.m 16 (.a 17 (.p 18 (.p 19 (.a 20 (.p 21 (.p 22 (.a 23 .done .non))) .non))) .non) .non) (.m 16 (.a 8 (.a 17 (.p 18 (.p 19 (.a 20 (.p 21 (.p 22 (.a 23 .done .non))) .non))) .non) .non) .non)) (.m 16 (.a 8 (.m 12 (.a 17 (.p 18 (.p 19 (.a 20 (.p 21 (.p 22 (.a 23 .done .non))) .non))) .non) .non) (.m 12 (.a 8 (.a 17 (.p 18 (.p 19 (.a 20 (.p 21 (.p 22 (.a 23 .done .non))) .non))) .non) .non) .non)) .non))) (.m 12 (.m 7 (.a 8 (.m 16 (.a 17 (.p 18 (.p 19 (.a 20 (.p 21 (.p 22 (.a 23 .done .non))) .non))) .non) .non) (.m 16 (.a 8 (.a 17 (.p 18 (.p 19 (.a 20 (.p 21 (.p 22 (.a 23 .done .non))) .non))) .non) .non) .non)) (.m 16 (.m 7 (.a 8 (.a 17 (.p 18 (.p 19 (.a 20 (.p 21 (.p 22 (.a 23 .done .non))) .non))) .non) .non) .non) .non)) (.m 16 (.m 7 (.a 8 (.m 12 (.a 17 (.p 18 (.p 19 (.a 20 (.p 21 (.p 22 (.a 23 .done .non))) .non))) .non) .non) (.m 12 (.a 8 (.a 17 (.p 18 (.p 19 (.a 20 (.p 21 (.p 22 (.a 23 .done .non))) .non))) .non) .non) .non)) (.m 12 (.m 7 (.a 8 (.a 17 (.p 18 (.p 19 (.a 20 (.p 21 (.p 22 (.a 23 .done .non))) .non))) .non) .non) .non) .non)) .non)))))))))))))))) (by kernel_rfl) (fun K hK=> ?_)
    refine (fun (cont:∀x:Nat × Nat × Nat × Nat,(hl.length+1≤x.2.1∧x.2.1≤maxLen∧hl.length+1≤x.2.2.2∧x.2.2.2≤maxLen)→Go.Own.Fin _ [(0, .ct (intC j)),(1, .ct (rowsC rs)),(2, .ct (intsC c)),(7, .own 0),(35, .ct (rowsC rs)),(36, .ct (intC rs.length)),(37, .ct (intC hl.length))]
      ((hl.length+10, .rowx (.slice (some ⟨gb,0,none⟩) (j+1) (j+1)) 211 2 (whs line))::(4, .box 79 (rwCs rw))::(0, .box 215 (tb0 (.slice (some ⟨x.1,0,none⟩) (hl.length+1) x.2.1) (.slice (some ⟨x.2.2.1,0,none⟩) (hl.length+1) x.2.2.2) hC))::(1, .rowx (.slice (some ⟨x.1,0,none⟩) (hl.length+1) x.2.1) 212 1 ((hl++ [Value.slice (some ⟨gb,0,none⟩) (j+1) (j+1)]).map CT.ex))::(2, .rowx (.slice (some ⟨x.2.2.1,0,none⟩) (hl.length+1) x.2.2.2) 3 1 (ints (rng j (hl.length+1))))::(3, .rowx hC 3 1 (ints (rng 0 j)))::linesB 10 hl zs) K)=> ?_) (fun x hx=>hK _ _ ?_)
    rotate_left
    · obtain ⟨g1,c1,g2,c2⟩:=x;obtain ⟨e1,e2,e3,e4⟩:=hx;clear hK K;refine Qz (Qx fun K hK=> ?_)
      refine Qk (iadd (by omega) (by omega)) J J J J ?_
      refine Qq J J J (Qj (hK _ _ (Q6 ?_)));clear hK K;dsimp only at e1 e2 e3 e4
      have hll:(hl++ [Value.slice (some ⟨gb,0,none⟩) (j+1) (j+1)]).length=hl.length+1:=by simp
      refine Q9 (Value.slice (some ⟨g1,0,none⟩) (hl.length+1) c1,Value.slice (some ⟨g2,0,none⟩) (hl.length+1) c2,hl++ [Value.slice (some ⟨gb,0,none⟩) (j+1) (j+1)]) (by dsimp only;omega) ⟨by dsimp only;omega,by dsimp only;rw [hll];exact .inr ⟨by omega,g1,c1,e1,e2,rfl⟩,by dsimp only;rw [hll];exact .inr ⟨by omega,g2,c2,e3,e4,rfl⟩,fun h hh=> ?_⟩ (by exact Qe 4 (Y9 (by
        dsimp only
        rw [hll,etake];exact step_B (by omega)) ⟨rfl,rfl,rfl,rfl,rfl,rfl,by rw [hll];simp only [Int.natCast_add];rfl,trivial⟩))
      rcases List.mem_append.1 hh with hh|hh
      · exact hlines h hh
      · exact ⟨gb,by simpa using hh⟩
    clear hK;refine Qr (Qq J J J (Qj ?_));refine Qr (Qq J J J (Qj ?_));refine Qr (Qq J J J (Qj ?_));refine Qr (Q0 J J J J (Qj ?_));refine Qr (QJ J J J fT0 J (Qj ?_));refine Qr (Qq J J J (Qj ?_));refine Qr (Qq J J J (Qj ?_));refine Qr (Q0 J J J J (Qj ?_));refine Qr (QJ J J J fT1 J (Qj ?_));refine Qr (Qq J J J (Qj ?_));refine Qr (Qq J J J (Qj ?_));refine Qr (Qk (iadd (by omega) (by omega)) J J J J (Qj ?_));refine Xp (QQ J J J J J lMat J (Qj ?_))
    refine XW ?_ ?_
    · refine Xh J J sMat J J J (Qj (Qn ?_ ?_))
      · refine X4 70 1 J J (Qt hl.length ((hl++ [Value.slice (some ⟨gb,0,none⟩) (j+1) (j+1)]).map CT.ex) J J J J sMat (by simp) J (by omega) (by omega) (by simp) J ?_);refine XY 73 1 (hl.length+1) J J (by simp) (by omega) (by decide) (fun g1 c1 e1 e2=> ?_);refine Qj (XW ?_ ?_)
        · refine QQ J J J J J lInts J (Qj (XW ?_ ?_))
          · refine Xh J J sInts J J J (Qj (Qn ?_ Q8));refine X4 77 2 J J (Qt hl.length (ints (rng j (hl.length+1))) J J J J sInts (by simp [X0]) J (by omega) (by omega) (by rw [Zh,ZU,Int.natCast_add];rfl) J ?_);refine XY 82 2 (hl.length+1) J J (by simp [X0]) (by omega) (by decide) (fun g2 c2 e3 e4=> ?_);refine Qj (Qr (Q0 J J J J (Qj ?_)));refine Qr (QJ J J J fT0 J (Qj ?_));refine Qn (Xj J J J J J zMat (Nat.le_of_ble_eq_true J) (Qj ?_)) Q8;refine Qr (Q0 J J J J (Qj ?_));refine Qr (QJ J J J fT1 J (Qj ?_));refine Qn (Xj J J J J J zInts (Nat.le_of_ble_eq_true J) (Qj ?_)) Q8;exact Xv (Xk cont (g1,c1,g2,c2) ⟨e1,e2,e3,e4⟩ (by exact Qu J ⟨rfl,rfl,rfl,rfl,rfl,rfl,rfl,trivial⟩))
          exact Q8
        refine XW ?_ ?_
        · refine Xh J J sInts J J J (Qj (XW ?_ ?_))
          · refine QQ J J J J J lInts J (Qj (Qn ?_ Q8));refine X4 77 2 J J (Qt hl.length (ints (rng j (hl.length+1))) J J J J sInts (by simp [X0]) J (by omega) (by omega) (by rw [Zh,ZU,Int.natCast_add];rfl) J ?_);refine XY 82 2 (hl.length+1) J J (by simp [X0]) (by omega) (by decide) (fun g2 c2 e3 e4=> ?_);refine Qj (Qr (Q0 J J J J (Qj ?_)));refine Qr (QJ J J J fT0 J (Qj ?_));refine Qn (Xj J J J J J zMat (Nat.le_of_ble_eq_true J) (Qj ?_)) Q8;refine Qr (Q0 J J J J (Qj ?_));refine Qr (QJ J J J fT1 J (Qj ?_));refine Qn (Xj J J J J J zInts (Nat.le_of_ble_eq_true J) (Qj ?_)) Q8;exact Xv (Xk cont (g1,c1,g2,c2) ⟨e1,e2,e3,e4⟩ (by exact Qu J ⟨rfl,rfl,rfl,rfl,rfl,rfl,rfl,trivial⟩))
          exact Q8
        exact Q8
      refine XW ?_ ?_
      · refine QQ J J J J J lInts J (Qj (Qn ?_ ?_))
        · refine X4 70 1 J J (Qt hl.length ((hl++ [Value.slice (some ⟨gb,0,none⟩) (j+1) (j+1)]).map CT.ex) J J J J sMat (by simp) J (by omega) (by omega) (by simp) J ?_);refine XY 73 1 (hl.length+1) J J (by simp) (by omega) (by decide) (fun g1 c1 e1 e2=> ?_);refine Qj (XW ?_ ?_)
          · refine Xh J J sInts J J J (Qj (Qn ?_ Q8));refine X4 77 2 J J (Qt hl.length (ints (rng j (hl.length+1))) J J J J sInts (by simp [X0]) J (by omega) (by omega) (by rw [Zh,ZU,Int.natCast_add];rfl) J ?_);refine XY 82 2 (hl.length+1) J J (by simp [X0]) (by omega) (by decide) (fun g2 c2 e3 e4=> ?_);refine Qj (Qr (Q0 J J J J (Qj ?_)));refine Qr (QJ J J J fT0 J (Qj ?_));refine Qn (Xj J J J J J zMat (Nat.le_of_ble_eq_true J) (Qj ?_)) Q8;refine Qr (Q0 J J J J (Qj ?_));refine Qr (QJ J J J fT1 J (Qj ?_));refine Qn (Xj J J J J J zInts (Nat.le_of_ble_eq_true J) (Qj ?_)) Q8;exact Xv (Xk cont (g1,c1,g2,c2) ⟨e1,e2,e3,e4⟩ (by exact Qu J ⟨rfl,rfl,rfl,rfl,rfl,rfl,rfl,trivial⟩))
          exact Q8
        refine XW ?_ ?_
        · refine Xh J J sInts J J J (Qj (Qn ?_ ?_))
          · refine X4 70 1 J J (Qt hl.length ((hl++ [Value.slice (some ⟨gb,0,none⟩) (j+1) (j+1)]).map CT.ex) J J J J sMat (by simp) J (by omega) (by omega) (by simp) J ?_);refine XY 73 1 (hl.length+1) J J (by simp) (by omega) (by decide) (fun g1 c1 e1 e2=> ?_);refine Qj (Qn ?_ Q8);refine X4 77 2 J J (Qt hl.length (ints (rng j (hl.length+1))) J J J J sInts (by simp [X0]) J (by omega) (by omega) (by rw [Zh,ZU,Int.natCast_add];rfl) J ?_);refine XY 82 2 (hl.length+1) J J (by simp [X0]) (by omega) (by decide) (fun g2 c2 e3 e4=> ?_);refine Qj (Qr (Q0 J J J J (Qj ?_)));refine Qr (QJ J J J fT0 J (Qj ?_));refine Qn (Xj J J J J J zMat (Nat.le_of_ble_eq_true J) (Qj ?_)) Q8;refine Qr (Q0 J J J J (Qj ?_));refine Qr (QJ J J J fT1 J (Qj ?_));refine Qn (Xj J J J J J zInts (Nat.le_of_ble_eq_true J) (Qj ?_)) Q8;exact Xv (Xk cont (g1,c1,g2,c2) ⟨e1,e2,e3,e4⟩ (by exact Qu J ⟨rfl,rfl,rfl,rfl,rfl,rfl,rfl,trivial⟩))
          exact Q8
        exact Q8
      refine XW ?_ ?_
      · refine Xh J J sInts J J J (Qj (Qn ?_ ?_))
        · refine X4 70 1 J J (Qt hl.length ((hl++ [Value.slice (some ⟨gb,0,none⟩) (j+1) (j+1)]).map CT.ex) J J J J sMat (by simp) J (by omega) (by omega) (by simp) J ?_);refine XY 73 1 (hl.length+1) J J (by simp) (by omega) (by decide) (fun g1 c1 e1 e2=> ?_);refine Qj (XW ?_ ?_)
          · refine QQ J J J J J lInts J (Qj (Qn ?_ Q8));refine X4 77 2 J J (Qt hl.length (ints (rng j (hl.length+1))) J J J J sInts (by simp [X0]) J (by omega) (by omega) (by rw [Zh,ZU,Int.natCast_add];rfl) J ?_);refine XY 82 2 (hl.length+1) J J (by simp [X0]) (by omega) (by decide) (fun g2 c2 e3 e4=> ?_);refine Qj (Qr (Q0 J J J J (Qj ?_)));refine Qr (QJ J J J fT0 J (Qj ?_));refine Qn (Xj J J J J J zMat (Nat.le_of_ble_eq_true J) (Qj ?_)) Q8;refine Qr (Q0 J J J J (Qj ?_));refine Qr (QJ J J J fT1 J (Qj ?_));refine Qn (Xj J J J J J zInts (Nat.le_of_ble_eq_true J) (Qj ?_)) Q8;exact Xv (Xk cont (g1,c1,g2,c2) ⟨e1,e2,e3,e4⟩ (by exact Qu J ⟨rfl,rfl,rfl,rfl,rfl,rfl,rfl,trivial⟩))
          exact Q8
        refine XW ?_ ?_
        · refine QQ J J J J J lInts J (Qj (Qn ?_ ?_))
          · refine X4 70 1 J J (Qt hl.length ((hl++ [Value.slice (some ⟨gb,0,none⟩) (j+1) (j+1)]).map CT.ex) J J J J sMat (by simp) J (by omega) (by omega) (by simp) J ?_);refine XY 73 1 (hl.length+1) J J (by simp) (by omega) (by decide) (fun g1 c1 e1 e2=> ?_);refine Qj (Qn ?_ Q8);refine X4 77 2 J J (Qt hl.length (ints (rng j (hl.length+1))) J J J J sInts (by simp [X0]) J (by omega) (by omega) (by rw [Zh,ZU,Int.natCast_add];rfl) J ?_);refine XY 82 2 (hl.length+1) J J (by simp [X0]) (by omega) (by decide) (fun g2 c2 e3 e4=> ?_);refine Qj (Qr (Q0 J J J J (Qj ?_)));refine Qr (QJ J J J fT0 J (Qj ?_));refine Qn (Xj J J J J J zMat (Nat.le_of_ble_eq_true J) (Qj ?_)) Q8;refine Qr (Q0 J J J J (Qj ?_));refine Qr (QJ J J J fT1 J (Qj ?_));refine Qn (Xj J J J J J zInts (Nat.le_of_ble_eq_true J) (Qj ?_)) Q8;exact Xv (Xk cont (g1,c1,g2,c2) ⟨e1,e2,e3,e4⟩ (by exact Qu J ⟨rfl,rfl,rfl,rfl,rfl,rfl,rfl,trivial⟩))
          exact Q8
        exact Q8
      exact Q8
    refine XW ?_ ?_
    · refine QQ J J J J J lInts J (Qj (XW ?_ ?_))
      · refine Xh J J sMat J J J (Qj (Qn ?_ ?_))
        · refine X4 70 1 J J (Qt hl.length ((hl++ [Value.slice (some ⟨gb,0,none⟩) (j+1) (j+1)]).map CT.ex) J J J J sMat (by simp) J (by omega) (by omega) (by simp) J ?_);refine XY 73 1 (hl.length+1) J J (by simp) (by omega) (by decide) (fun g1 c1 e1 e2=> ?_);refine Qj (XW ?_ ?_)
          · refine Xh J J sInts J J J (Qj (Qn ?_ Q8));refine X4 77 2 J J (Qt hl.length (ints (rng j (hl.length+1))) J J J J sInts (by simp [X0]) J (by omega) (by omega) (by rw [Zh,ZU,Int.natCast_add];rfl) J ?_);refine XY 82 2 (hl.length+1) J J (by simp [X0]) (by omega) (by decide) (fun g2 c2 e3 e4=> ?_);refine Qj (Qr (Q0 J J J J (Qj ?_)));refine Qr (QJ J J J fT0 J (Qj ?_));refine Qn (Xj J J J J J zMat (Nat.le_of_ble_eq_true J) (Qj ?_)) Q8;refine Qr (Q0 J J J J (Qj ?_));refine Qr (QJ J J J fT1 J (Qj ?_));refine Qn (Xj J J J J J zInts (Nat.le_of_ble_eq_true J) (Qj ?_)) Q8;exact Xv (Xk cont (g1,c1,g2,c2) ⟨e1,e2,e3,e4⟩ (by exact Qu J ⟨rfl,rfl,rfl,rfl,rfl,rfl,rfl,trivial⟩))
          exact Q8
        refine XW ?_ ?_
        · refine Xh J J sInts J J J (Qj (Qn ?_ ?_))
          · refine X4 70 1 J J (Qt hl.length ((hl++ [Value.slice (some ⟨gb,0,none⟩) (j+1) (j+1)]).map CT.ex) J J J J sMat (by simp) J (by omega) (by omega) (by simp) J ?_);refine XY 73 1 (hl.length+1) J J (by simp) (by omega) (by decide) (fun g1 c1 e1 e2=> ?_);refine Qj (Qn ?_ Q8);refine X4 77 2 J J (Qt hl.length (ints (rng j (hl.length+1))) J J J J sInts (by simp [X0]) J (by omega) (by omega) (by rw [Zh,ZU,Int.natCast_add];rfl) J ?_);refine XY 82 2 (hl.length+1) J J (by simp [X0]) (by omega) (by decide) (fun g2 c2 e3 e4=> ?_);refine Qj (Qr (Q0 J J J J (Qj ?_)));refine Qr (QJ J J J fT0 J (Qj ?_));refine Qn (Xj J J J J J zMat (Nat.le_of_ble_eq_true J) (Qj ?_)) Q8;refine Qr (Q0 J J J J (Qj ?_));refine Qr (QJ J J J fT1 J (Qj ?_));refine Qn (Xj J J J J J zInts (Nat.le_of_ble_eq_true J) (Qj ?_)) Q8;exact Xv (Xk cont (g1,c1,g2,c2) ⟨e1,e2,e3,e4⟩ (by exact Qu J ⟨rfl,rfl,rfl,rfl,rfl,rfl,rfl,trivial⟩))
          exact Q8
        exact Q8
      refine XW ?_ ?_
      · refine Xh J J sInts J J J (Qj (XW ?_ ?_))
        · refine Xh J J sMat J J J (Qj (Qn ?_ ?_))
          · refine X4 70 1 J J (Qt hl.length ((hl++ [Value.slice (some ⟨gb,0,none⟩) (j+1) (j+1)]).map CT.ex) J J J J sMat (by simp) J (by omega) (by omega) (by simp) J ?_);refine XY 73 1 (hl.length+1) J J (by simp) (by omega) (by decide) (fun g1 c1 e1 e2=> ?_);refine Qj (Qn ?_ Q8);refine X4 77 2 J J (Qt hl.length (ints (rng j (hl.length+1))) J J J J sInts (by simp [X0]) J (by omega) (by omega) (by rw [Zh,ZU,Int.natCast_add];rfl) J ?_);refine XY 82 2 (hl.length+1) J J (by simp [X0]) (by omega) (by decide) (fun g2 c2 e3 e4=> ?_);refine Qj (Qr (Q0 J J J J (Qj ?_)));refine Qr (QJ J J J fT0 J (Qj ?_));refine Qn (Xj J J J J J zMat (Nat.le_of_ble_eq_true J) (Qj ?_)) Q8;refine Qr (Q0 J J J J (Qj ?_));refine Qr (QJ J J J fT1 J (Qj ?_));refine Qn (Xj J J J J J zInts (Nat.le_of_ble_eq_true J) (Qj ?_)) Q8;exact Xv (Xk cont (g1,c1,g2,c2) ⟨e1,e2,e3,e4⟩ (by exact Qu J ⟨rfl,rfl,rfl,rfl,rfl,rfl,rfl,trivial⟩))
          exact Q8
        exact Q8
      exact Q8
    refine XW ?_ ?_
    · refine Xh J J sInts J J J (Qj (XW ?_ ?_))
      · refine Xh J J sMat J J J (Qj (Qn ?_ ?_))
        · refine X4 70 1 J J (Qt hl.length ((hl++ [Value.slice (some ⟨gb,0,none⟩) (j+1) (j+1)]).map CT.ex) J J J J sMat (by simp) J (by omega) (by omega) (by simp) J ?_);refine XY 73 1 (hl.length+1) J J (by simp) (by omega) (by decide) (fun g1 c1 e1 e2=> ?_);refine Qj (XW ?_ ?_)
          · refine QQ J J J J J lInts J (Qj (Qn ?_ Q8));refine X4 77 2 J J (Qt hl.length (ints (rng j (hl.length+1))) J J J J sInts (by simp [X0]) J (by omega) (by omega) (by rw [Zh,ZU,Int.natCast_add];rfl) J ?_);refine XY 82 2 (hl.length+1) J J (by simp [X0]) (by omega) (by decide) (fun g2 c2 e3 e4=> ?_);refine Qj (Qr (Q0 J J J J (Qj ?_)));refine Qr (QJ J J J fT0 J (Qj ?_));refine Qn (Xj J J J J J zMat (Nat.le_of_ble_eq_true J) (Qj ?_)) Q8;refine Qr (Q0 J J J J (Qj ?_));refine Qr (QJ J J J fT1 J (Qj ?_));refine Qn (Xj J J J J J zInts (Nat.le_of_ble_eq_true J) (Qj ?_)) Q8;exact Xv (Xk cont (g1,c1,g2,c2) ⟨e1,e2,e3,e4⟩ (by exact Qu J ⟨rfl,rfl,rfl,rfl,rfl,rfl,rfl,trivial⟩))
          exact Q8
        refine XW ?_ ?_
        · refine QQ J J J J J lInts J (Qj (Qn ?_ ?_))
          · refine X4 70 1 J J (Qt hl.length ((hl++ [Value.slice (some ⟨gb,0,none⟩) (j+1) (j+1)]).map CT.ex) J J J J sMat (by simp) J (by omega) (by omega) (by simp) J ?_);refine XY 73 1 (hl.length+1) J J (by simp) (by omega) (by decide) (fun g1 c1 e1 e2=> ?_);refine Qj (Qn ?_ Q8);refine X4 77 2 J J (Qt hl.length (ints (rng j (hl.length+1))) J J J J sInts (by simp [X0]) J (by omega) (by omega) (by rw [Zh,ZU,Int.natCast_add];rfl) J ?_);refine XY 82 2 (hl.length+1) J J (by simp [X0]) (by omega) (by decide) (fun g2 c2 e3 e4=> ?_);refine Qj (Qr (Q0 J J J J (Qj ?_)));refine Qr (QJ J J J fT0 J (Qj ?_));refine Qn (Xj J J J J J zMat (Nat.le_of_ble_eq_true J) (Qj ?_)) Q8;refine Qr (Q0 J J J J (Qj ?_));refine Qr (QJ J J J fT1 J (Qj ?_));refine Qn (Xj J J J J J zInts (Nat.le_of_ble_eq_true J) (Qj ?_)) Q8;exact Xv (Xk cont (g1,c1,g2,c2) ⟨e1,e2,e3,e4⟩ (by exact Qu J ⟨rfl,rfl,rfl,rfl,rfl,rfl,rfl,trivial⟩))
          exact Q8
        exact Q8
      refine XW ?_ ?_
      · refine QQ J J J J J lInts J (Qj (XW ?_ ?_))
        · refine Xh J J sMat J J J (Qj (Qn ?_ ?_))
          · refine X4 70 1 J J (Qt hl.length ((hl++ [Value.slice (some ⟨gb,0,none⟩) (j+1) (j+1)]).map CT.ex) J J J J sMat (by simp) J (by omega) (by omega) (by simp) J ?_);refine XY 73 1 (hl.length+1) J J (by simp) (by omega) (by decide) (fun g1 c1 e1 e2=> ?_);refine Qj (Qn ?_ Q8);refine X4 77 2 J J (Qt hl.length (ints (rng j (hl.length+1))) J J J J sInts (by simp [X0]) J (by omega) (by omega) (by rw [Zh,ZU,Int.natCast_add];rfl) J ?_);refine XY 82 2 (hl.length+1) J J (by simp [X0]) (by omega) (by decide) (fun g2 c2 e3 e4=> ?_);refine Qj (Qr (Q0 J J J J (Qj ?_)));refine Qr (QJ J J J fT0 J (Qj ?_));refine Qn (Xj J J J J J zMat (Nat.le_of_ble_eq_true J) (Qj ?_)) Q8;refine Qr (Q0 J J J J (Qj ?_));refine Qr (QJ J J J fT1 J (Qj ?_));refine Qn (Xj J J J J J zInts (Nat.le_of_ble_eq_true J) (Qj ?_)) Q8;exact Xv (Xk cont (g1,c1,g2,c2) ⟨e1,e2,e3,e4⟩ (by exact Qu J ⟨rfl,rfl,rfl,rfl,rfl,rfl,rfl,trivial⟩))
          exact Q8
        exact Q8
      exact Q8
    exact Q8
  have hi' :hl.length=rs.length:=by omega
  rw [show rs.take hl.length=rs by rw [hi',List.take_length]] at hrl ⊢;generalize hzs:(rs.map fun r=>lnOf j r.cs r.b)=zs at*;refine Qm (Qz (Qy (Qx fun K hK=> ?_)));refine Qq J J J (Qk (iadd (by omega) (by omega)) J J J J ?_);refine Ops.makeX (hl.length+10) (j+1) J J J (by omega) sWhs (by omega) (by omega) J (by exact lines_ge (.inl (Nat.le_refl _))) J (fun gb=> ?_)
  refine Ops.weakX (hl.length+10) (whs (List.replicate (j+1) 0)) (Qd ..) (whs_zero (j+1)) ?_
  rw [Z0];refine Qv J J J (Qj (hK _ _ (Qz (Qy (Qy ?_)))));clear hK K;refine Qx (fun K hK=> ?_);refine Qq J J J (Qh J J sInts.und (List.length_map ..) J (Qq J J J (Qj (hK _ _ (Qz (Q3 ?_))))));clear hK K
  refine Qs (α:=Nat) (fun q=>q≤c.length)
    (fun q=>[(0, .ct (intC j)),(7, .own 0),(14, .ct (.ex (.slice (some ⟨gb,0,none⟩) (j+1) (j+1)))),(91, .ct (intsC c)),(92, .ct (intC c.length)),(93, .ct (intC q))])
    (fun q=>(hl.length+10, .rowx (.slice (some ⟨gb,0,none⟩) (j+1) (j+1)) 211 2 (whs (lnP j (c.map fun x=> -x) q)))::(0, .box 215 (tb0 hR hB hC))::(1, .rowx hR 212 1 (hl.map CT.ex))::(2, .rowx hB 3 1 (ints (rng j hl.length)))::(3, .rowx hC 3 1 (ints (rng 0 j)))::linesB 10 hl zs)
    (fun q=>c.length - q) 0 (Nat.zero_le _) (by exact Qu (by rw [lnP_zero]) ⟨rfl,rfl,rfl,rfl,rfl,rfl,trivial⟩) ?_
  intro q hq
  (try dsimp only at hq ⊢)
  have hpl:=lnP_len j (c.map fun x=> -x) q;refine Qy (Qx fun K hK=> ?_);refine Qk ilss J J J J (Qj (hK _ _ (Qz (Qy ?_))));clear hK K;refine Q2 J (fun h2=> ?_) (fun h2=> ?_)
  · have kq:(q:Int).toNat=q:=Int.toNat_natCast _
    have kq2:(q:Int).toNat*2=q*2:=by omega
    have bq:=hc.get q;have eset:=lnP_set j (c.map fun x=> -x) q (by omega)
    have eneg:(c.map fun x=> -x).getD q 0= -(c.getD q 0):=by
      have:q<c.length:=by omega
      simp [List.getD_eq_getElem?_getD,this]
    rw [eneg] at eset;generalize lnP j (c.map fun x=> -x) q=cur at*;refine QW (Qz (Qy (Q3 (Qy (Qx fun K hK=> ?_)))));refine Qq J J J (Xx J J J sInts (by omega) (Xs (by omega) (by omega)) J ?_);refine X1 J J J lInt J (Qv J J J (Qv J J J (Qj (hK _ _ (Qz ?_)))));clear hK K;refine Qx (fun K hK=> ?_);refine Qq J J J (Qq J J J (Qq J J J ?_));rw [kq]
    refine Ops.ineg J J (by omega) (by omega) J ?_
    refine QV goof (of_ok _ (by omega) (by omega)) J J J J ?_
    refine Qp (hl.length+10) (j+1) J J (Qd ..) (by rw [XV,hpl]) J sWhs (by omega) (by omega) J ?_
    rw [kq2]
    refine stWhX J J (Qd ..) J (by omega) szWh ?_
    rw [Z0,eset];refine Qj (hK _ _ (Qz ?_));clear hK K;refine Qx (fun K hK=> ?_)
    refine Qk (iadd (by omega) (by omega)) J J J J ?_
    refine Qq J J J (Qj (hK _ _ (Q6 ?_)));clear hK K;refine Q9 (q+1) (by omega) (by omega) (by exact Qu J ⟨rfl,rfl,rfl,rfl,rfl,by simp only [Int.natCast_add];rfl,trivial⟩)
  have hq' :q=(c.map fun x=> -x).length:=by simp;omega
  rw [hq',lnP_all j _ (by simp;omega)];generalize hgl:lnOf j (c.map fun x=> -x) 0=gl at*;refine Qm (Qz (Qy (Qx fun K hK=> ?_)));refine Qq J J J (Qq J J J (Q0 J J J J (QJ J J J fT0 J (QQ J J J J J lMat J (Qq J J J (Xh J J sMat J J J (X4 109 1 J J (Qt hl.length ((hl++ [Value.slice (some ⟨gb,0,none⟩) (j+1) (j+1)]).map CT.ex) J J J J sMat (by simp) J (by omega) (by omega) (by simp) J ?_))))))));refine XY 112 1 (hl.length+1) J J (by simp) (by omega) (by decide) (fun g1 c1 e1 e2=> ?_);refine Q0 J J J J (QJ J J J fT0 J (Xj J J J J J zMat (Nat.le_of_ble_eq_true J) (Qj (hK _ _ (Qz (Qy ?_))))));clear hK K;refine Qx (fun K hK=> ?_);refine Qq J J J (Qv J J J (Qj (hK _ _ (Qz (Q4 ?_)))));clear hK K;refine Fin.retMO ⟨Value.slice (some ⟨g1,0,none⟩) (hl.length+1) c1,hB,hC,hl++ [Value.slice (some ⟨gb,0,none⟩) (j+1) (j+1)],zs++ [gl],rng j hl.length,rng 0 j,1⟩ rfl rfl rfl (step_B2 (by omega)) ⟨by rw [hzs,hgl],by rw [hi'],rfl,rfl,by simp;omega,fun h hh=> ?_,?_,by rw [←hi'];exact hHB,hH⟩
  · rcases List.mem_append.1 hh with hh|hh
    · exact hlines h hh
    · exact ⟨gb,by simpa using hh⟩
  · rw [←hi'];exact .inr ⟨by omega,g1,c1,e1,e2,rfl⟩
end Go.Proofs.YtojkdfilabmafaaGreat
namespace Go.Own
section
variable {P : Program} {n : Nat} {S : BSet} {w0 : World} {B0 : BL} {fx : List Nat} {ρ0 : Nat → Value} {α : Type} {J : α → Prop} {R : α → Sl} {B1 : α → BL} {L : AL} {B : BL}
theorem Fin.retMOS{fn:Func}{s:Nat}{sl:Sl}(q:α)(hfn:fn.results= #[.tmp s])(hs:look L s=some sl)(hR:R q=sl)(hB:∀i e,bget (B1 q) i=some e→bget B i=some e)(hfx1:∀i∈fx,isBx (bget (B1 q) i)=true)(hJ:J q):
    Fin (lentM P n S w0 B0 fx ρ0) L B (fun a w=>bodyPost P fn (Own.postM S w0 ρ0 B0 fx J R B1) .ret a w):=fun a ρ w hI=>by
  refine ⟨hI.defers,a.tmps.getD s undef,?_,hI.postMS q hB hfx1 hJ (by rw [hR];exact hI.slot s sl hs)⟩
  simp [results,hfn]
end
theorem spl_app{α:Type}{A D ds:List α}{o:Nat}(h:A.length=o):spl (A++D) o ds=A++ds++D.drop ds.length:=by
  unfold spl;rw [←h,List.take_left,←List.drop_drop,List.drop_left]
end Go.Own
namespace Go.Proofs.YtojkdfilabmafaaGreat
open Go.Own Go.Limbs
attribute [local irreducible] St Ops Go.Own.Fin Ok OkM
abbrev whsC (zs : List Int) : CT := .fr (sliceT 2 (zs.map whCs))
theorem whs_app(a b:List Int):whs (a++b)=whs a++whs b:=by simp [whs]
theorem whs_take(l:List Int)(i:Nat):(whs l).take (i*2)=whs (l.take i):=by
  induction l generalizing i with
  |nil=>simp [whs]
  |cons z l ih=>
    cases i with
    |zero=>simp [whs]
    |succ i=>
      have e:whs (z::l)=boolC (decide (z<0))::natC z.natAbs::whs l:=rfl;have e2:whs ((z::l).take (i+1))=boolC (decide (z<0))::natC z.natAbs::whs (l.take i):=rfl;rw [e,e2,show (i+1)*2=(i*2+1)+1 by omega,List.take_succ_cons,List.take_succ_cons,ih]
theorem whs_drop(l:List Int)(i:Nat):(whs l).drop (i*2)=whs (l.drop i):=by
  induction l generalizing i with
  |nil=>simp [whs]
  |cons z l ih=>
    cases i with
    |zero=>simp [whs]
    |succ i=>
      have e:whs (z::l)=boolC (decide (z<0))::natC z.natAbs::whs l:=rfl;rw [e,show (i+1)*2=(i*2+1)+1 by omega,List.drop_succ_cons,List.drop_succ_cons,ih];rfl
theorem ones_whs(l:List Int):ones (whs l)=true:=by
  induction l with
  |nil=>rfl
  |cons z l ih=>
    have e:whs (z::l)=boolC (decide (z<0))::natC z.natAbs::whs l:=rfl;rw [e];simp only [ones,ih];rfl
theorem ones_ints(l:List Int):ones (ints l)=true:=by
  induction l with
  |nil=>rfl
  |cons z l ih=>
    have e:ints (z::l)=intC z::ints l:=rfl;rw [e];simp only [ones,ih];rfl
theorem erase_td{α:Type}(l:List α)(i:Nat):l.take i++l.drop (i+1)=l.eraseIdx i:=(List.eraseIdx_eq_take_drop_succ ..).symm
theorem goInsert:InGo Tryz.prog 201:=InGo.of Tryz.func201 (by kernel_rfl) (by kernel_rfl)
set_option maxHeartbeats 4000000 in
theorem Insert_ok(gb m:Nat)(l:List Int)(i:Nat)(x:Int)(hl:l.length=m)(hi:i<m)(hm:m≤200):
    OkM Tryz.prog 201 ([.ex (kh gb 0 m m),intC i,whsC [x]].map Sl.ct) [(0, .rowx (kh gb 0 m m) 211 2 (whs l))] [] (fun _:Unit=>True) (fun _=> .own 1) (fun _=>[(1, .row 211 2 (whs (l.take i++x::l.drop i)))]):=by
  have hwl:=XV l
  refine OkM.enter Tryz.func201 J _ Tryz.ntmps201 J (fun i hi=>absurd hi (by simp)) ?_
  intro S w ρ0 hbor;refine Qy (Qx fun K hK=> ?_);refine Qv J J J (Qj (hK _ _ (Qz (Qy ?_))));clear hK K;refine Qx (fun K hK=> ?_);refine Qq J J J (Qq J J J (Z4 i J J J J sWhs (by omega) J ?_));refine Qj (hK _ _ (Qz (Qy ?_)));clear hK K;refine Qx (fun K hK=> ?_);refine Qq J J J (Qh J J sWhs.und (m:=1) (List.length_map ..) J (Qv J J J (Qj (hK _ _ (Qz (Qy (Qy ?_)))))));clear hK K;refine Qx (fun K hK=> ?_);refine Qq J J J (Qk ieql J J J J (Qj (hK _ _ (Qz (Xy J (QW (Qz (Qy ?_))))))));clear hK K;refine Qx (fun K hK=> ?_);refine Qq J J J (Yq J J sWhs.und J (Qv J J J (Qj (hK _ _ (Qz (Qy (Qy ?_)))))));clear hK K;refine Qx (fun K hK=> ?_);refine Qq J J J (Qq J J J (Qk ieql J J J J (Qj (hK _ _ (Qz ?_)))));clear hK K;refine Q2 J (fun h=> ?_) (fun h=> ?_)
  · exfalso;omega
  refine QW (Qz (Qy (Qy (Qx fun K hK=> ?_))));refine Qq J J J (Qq J J J (Qk (iadd (by omega) (by omega)) J J J J ?_));refine Qq J J J (Ops.capKv J J sWhs.und J (Qk igtr J J J J (Qj (hK _ _ (Qz ?_)))));clear hK K;refine Q2 J (fun h=> ?_) (fun h=> ?_)
  · refine Qy (Qx fun K hK=> ?_);refine Qq J J J (Qq J J J (Ya i J J J J sWhs (by omega) J ?_));refine Qq J J J (Qq J J J (Qk (iadd (by omega) (by omega)) J J J J ?_));refine Qq J J J (Qk (isub (by omega) (by omega)) J J J J ?_)
    refine Ops.appZK 0 1 (m+1 - i) J J J (by omega) J (by rw [hwl];omega) (by omega) (by omega) (by omega) sWhs Tryz.underlying3 (by omega) (by omega) J J J ?_
    rw [whs_take];have hzl:(zinit (.agg #[.bool false, .slice none 0 0]) (m+1 - i)).length=(m+1 - i)*2:=zinit_len sWhs _
    have htl:(whs (l.take i)).length=i*2:=by rw [XV,List.length_take];omega
    generalize zinit (.agg #[.bool false, .slice none 0 0]) (m+1 - i)=Z at*;refine XY 40 1 (m+1) J J (by rw [List.length_append,htl,hzl];omega) (by omega) (by decide) (fun g2 c2 hc1 hc2=> ?_);refine Qv J J J (Qj (hK _ _ (Qz (Qy ?_))));clear hK K;refine Qx (fun K hK=> ?_);refine Qq J J J (Qq J J J (Z4 i J J J J sWhs (by omega) J ?_));rw [if_neg (show ¬c2=i by omega),Nat.zero_add];refine Qq J J J (Ops.copyG 1 i 1 (whCs x) (whs (l.take i)++whCs x++Z.drop 2) J J J J (by rw [List.length_append,htl,hzl];omega) (by omega) (by omega) sWhs (src_fr (es:=[whCs x]) J (by simp)) J (by rw [spl_app htl];rfl) J ?_);refine Qj (hK _ _ (Qz (Qy ?_)));clear hK K;refine XX mixed 8 (.p 0 (.p 1 (.p 2 (.p 3 (.p 4 (.p 5 (.p 6 (.p 7 (.a 8 .done))))))))) (by kernel_rfl) (fun K hK=> ?_);refine Qq J J J (Qq J J J (Qq J J J (Qk (iadd (by omega) (by omega)) J J J J ?_)))
    refine Z4 (i+1) J J J (by omega) sWhs (by omega) J ?_
    rw [if_neg (show ¬c2=i+1 by omega),Nat.zero_add];refine Qq J J J (Qq J J J (Z4 i J J J J sWhs (by omega) J ?_));rw [if_neg (show ¬m=i by omega),Nat.zero_add]
    have h2l:(whs (l.take i)++whCs x).length=(i+1)*2:=by rw [List.length_append,htl];show i*2+2=_;omega
    have hdl:(whs (l.drop i)).length=(m - i)*2:=by rw [XV,List.length_drop];omega
    refine Ops.copyG 1 (i+1) (m - i) (whs (l.drop i)) (whs (l.take i++x::l.drop i)) J J J J (by rw [List.length_append,h2l,List.length_drop,hzl];omega) (by omega) (by omega) sWhs ?_ (ones_whs _) ?_ J ?_
    · intro a ρ w hI;obtain ⟨A,cc,us,a1,a2,a3,a4⟩:=src_kh (y:= .tmp 53) 0 i rfl rfl rfl (by rw [XV,hl]) (by omega) sWhs a ρ w hI;refine ⟨A,cc,us,a1,a2,?_,a4⟩;rw [whs_drop,List.take_of_length_le (l:=whs (l.drop i)) (by rw [hdl];omega)] at a3;exact a3
    · have hz0:(Z.drop 2).drop (whs (l.drop i)).length=[]:=List.drop_of_length_le (by rw [List.length_drop,hzl,hdl];omega);rw [spl_app h2l,hz0,List.append_nil,List.append_assoc,whs_app];rfl
    refine Qj (hK _ _ (Qz (Qy ?_)));clear hK K;refine Qx (fun K hK=> ?_);refine Qq J J J (Qv J J J (Qj (hK _ _ (Qz (Q4 (QY ?_))))));clear hK K;refine Fin.link 6 1 J J (Fin.retMOS () J J J (fun j e hj=> ?_) (fun i hi=>absurd hi (by simp)) trivial);by_cases hj1:1=j
    · subst hj1;exact hj
    · rw [QU _ _ hj1] at hj;cases hj
  · exfalso;omega
theorem goDelete_ints:InGo Tryz.prog 206:=InGo.of Tryz.func206 (by kernel_rfl) (by kernel_rfl)
set_option maxHeartbeats 4000000 in
theorem Delete_ints(gb m c:Nat)(l:List Int)(i:Nat)(hl:l.length=m)(hi:i<m)(hc:m≤c)(hm:m≤200):
    OkM Tryz.prog 206 ([.ex (kh gb 0 m c),intC i,intC (i+1)].map Sl.ct) [(0, .rowx (kh gb 0 m c) 3 1 (ints l))] [] (fun _:Unit=>c≤maxLen) (fun _=> .ct (.ex (kh gb 0 (m - 1) c))) (fun _=>[(0, .rowx (kh gb 0 (m - 1) c) 3 1 (ints (l.eraseIdx i)))]):=by
  refine OkM.enter Tryz.func206 J _ Tryz.ntmps206 J (fun i hi=>absurd hi (by simp)) ?_
  intro S w ρ0 hbor;refine St.factI (c≤maxLen) (fun a ρ w hI=>(hI.rowK (i:=0) J (by simp [hl]) (by decide)).2.choose_spec.choose_spec.2.2.2.2.1) (fun hcx=> ?_);refine Qy (Qx fun K hK=> ?_);refine Qv J J J (Qj (hK _ _ (Qz (Qy ?_))));clear hK K;refine Qx (fun K hK=> ?_);refine Qq J J J (Qq J J J (Qq J J J (Qq J J J (Yq J J sInts.und J (Ops.cutK3 J J J J J sInts (by omega) (by omega) (by omega) (by omega) J ?_)))));refine Qj (hK _ _ (Qz (Qy (Qy ?_))));clear hK K;refine Qx (fun K hK=> ?_);refine Qq J J J (Qq J J J (Qk ieql J J J J (Qj (hK _ _ (Qz ?_)))));clear hK K;refine Q2 J (fun h=> ?_) (fun h=> ?_)
  · exfalso;omega
  refine QW (Qz (Qy (Qx fun K hK=> ?_)));refine Qq J J J (Yq J J sInts.und J (Qv J J J (Qj (hK _ _ (Qz (Qy ?_))))));clear hK K;refine XX mixed 6 (.p 0 (.p 1 (.p 2 (.p 3 (.p 4 (.p 5 (.a 6 (.p 7 .done)))))))) (by kernel_rfl) (fun K hK=> ?_);refine Qq J J J (Qq J J J (Ya i J J J J sInts (by omega) J ?_));refine Qq J J J (Qq J J J (Z4 (i+1) J J J (by omega) sInts (by omega) J ?_))
  refine Ops.appIn 0 i (i+1) (ints (l.eraseIdx i)) J J J (by split <;>omega) J (by simp [hl]) (by omega) (by omega) sInts (ones_ints _) ?_ J ?_
  · rw [Nat.mul_one,Nat.mul_one,Nat.mul_one,←erase_td,ZU]
    congr 1
    · simp [ints,List.map_take]
    · rw [List.take_of_length_le (by simp [hl])];simp [ints,List.map_drop]
  rw [show i+(m - (i+1))=m - 1 by omega];refine Qv J J J (Qj (hK _ _ (Qz (Qy ?_))));clear hK K;refine Qx (fun K hK=> ?_);refine Qq J J J (Qq J J J (Yq J J sInts.und J (Qq J J J (Ops.cutKlh (m - 1) m J J J J (by omega) J sInts (by omega) (by omega) J ?_))));rw [if_neg (show ¬c=m - 1 by omega),Nat.zero_add]
  refine Ops.clearK 0 J J (.inr J) J (by simp [List.length_eraseIdx,hl,hi]) (by omega) sInts (by decide) ?_
  refine Qj (hK _ _ (Qz (Qy ?_)));clear hK K;refine Qx (fun K hK=> ?_);refine Qq J J J (Qv J J J (Qj (hK _ _ (Qz (Q4 ?_)))));clear hK K;refine YK () [_] rfl (QX J QZ) J (fun _=>rfl) hcx
theorem goDelete_whs:InGo Tryz.prog 207:=InGo.of Tryz.func207 (by kernel_rfl) (by kernel_rfl)
set_option maxHeartbeats 4000000 in
theorem Delete_whs(gb m c:Nat)(l:List Int)(i:Nat)(hl:l.length=m)(hi:i<m)(hc:m≤c)(hm:m≤200):
    OkM Tryz.prog 207 ([.ex (kh gb 0 m c),intC i,intC (i+1)].map Sl.ct) [(0, .rowx (kh gb 0 m c) 211 2 (whs l))] [] (fun _:Unit=>c≤maxLen) (fun _=> .ct (.ex (kh gb 0 (m - 1) c))) (fun _=>[(0, .rowx (kh gb 0 (m - 1) c) 211 2 (whs (l.eraseIdx i)))]):=by
  have hwl:=XV l
  refine OkM.enter Tryz.func207 J _ Tryz.ntmps207 J (fun i hi=>absurd hi (by simp)) ?_
  intro S w ρ0 hbor;refine St.factI (c≤maxLen) (fun a ρ w hI=>(hI.rowK (i:=0) J (by rw [hwl,hl]) (by decide)).2.choose_spec.choose_spec.2.2.2.2.1) (fun hcx=> ?_);refine Qy (Qx fun K hK=> ?_);refine Qv J J J (Qj (hK _ _ (Qz (Qy ?_))));clear hK K;refine Qx (fun K hK=> ?_);refine Qq J J J (Qq J J J (Qq J J J (Qq J J J (Yq J J sWhs.und J (Ops.cutK3 J J J J J sWhs (by omega) (by omega) (by omega) (by omega) J ?_)))));refine Qj (hK _ _ (Qz (Qy (Qy ?_))));clear hK K;refine Qx (fun K hK=> ?_);refine Qq J J J (Qq J J J (Qk ieql J J J J (Qj (hK _ _ (Qz ?_)))));clear hK K;refine Q2 J (fun h=> ?_) (fun h=> ?_)
  · exfalso;omega
  refine QW (Qz (Qy (Qx fun K hK=> ?_)));refine Qq J J J (Yq J J sWhs.und J (Qv J J J (Qj (hK _ _ (Qz (Qy ?_))))));clear hK K;refine XX mixed 6 (.p 0 (.p 1 (.p 2 (.p 3 (.p 4 (.p 5 (.a 6 (.p 7 .done)))))))) (by kernel_rfl) (fun K hK=> ?_);refine Qq J J J (Qq J J J (Ya i J J J J sWhs (by omega) J ?_));refine Qq J J J (Qq J J J (Z4 (i+1) J J J (by omega) sWhs (by omega) J ?_))
  refine Ops.appIn 0 i (i+1) (whs (l.eraseIdx i)) J J J (by split <;>omega) J (by rw [hwl,hl]) (by omega) (by omega) sWhs (ones_whs _) ?_ J ?_
  · rw [←erase_td,whs_app,whs_take,whs_drop,List.take_of_length_le (l:=whs (l.drop (i+1))) (by rw [XV,List.length_drop];omega)]
  rw [show i+(m - (i+1))=m - 1 by omega];refine Qv J J J (Qj (hK _ _ (Qz (Qy ?_))));clear hK K;refine Qx (fun K hK=> ?_);refine Qq J J J (Qq J J J (Yq J J sWhs.und J (Qq J J J (Ops.cutKlh (m - 1) m J J J J (by omega) J sWhs (by omega) (by omega) J ?_))));rw [if_neg (show ¬c=m - 1 by omega),Nat.zero_add]
  refine Ops.clearK 0 J J (.inr J) J (by rw [XV,List.length_eraseIdx,if_pos (by omega),hl]) (by omega) sWhs (by decide) ?_
  refine Qj (hK _ _ (Qz (Qy ?_)));clear hK K;refine Qx (fun K hK=> ?_);refine Qq J J J (Qv J J J (Qj (hK _ _ (Qz (Q4 ?_)))));clear hK K;refine YK () [_] rfl (QX J QZ) J (fun _=>rfl) hcx
end Go.Proofs.YtojkdfilabmafaaGreat
namespace Go.Own
variable {X : Ctx} {L : AL} {B : BL} {ops : Array Oper} {K : Act → World → Prop} {r : Pl} {k : Kd}
theorem Is.hand{a:Act}{ρ:Nat→Value}{w:World}(hI:Is X L B a ρ w){i el n m:Nat}{v:Value}{cs:List CT}(hi:bget B i=some (.rowx v el n cs))(hl:cs.length=m*n)(hm:0<m)(hp:0<n):∃gb c,v=kh gb 0 m c∧m≤c∧c≤maxLen:=by
  obtain ⟨h1,n',vs,how,hc⟩:=(hI.ent i _ hi).1;have hl' :=hc.length;rw [how.1,hl] at hl';have hnm:n' =m:=Nat.eq_of_mul_eq_mul_right hp hl';subst hnm;rcases how.2 with ⟨h2,h3⟩|⟨gb,cap,cur,h2,h3,h4,h5,h6,_⟩
  · omega
  · exact ⟨gb,cap,h1.symm.trans h2,h5,h6⟩
theorem Ops.hand{l:Pl}(i m:Nat){el n:Nat}{v:Value}{cs:List CT}(hi:bget B i=some (.rowx v el n cs))(hl:cs.length=m*n)(hm:0<m)(hp:0<n)(h:∀gb cc,v=kh gb 0 m cc→m≤cc→cc≤maxLen→Ops X ops l L B K):Ops X ops l L B K:=fun a ρ w hI=>by
  obtain ⟨gb,cc,h1,h2,h3⟩:=hI.hand hi hl hm hp
  exact h gb cc h1 h2 h3 a ρ w hI
end Go.Own
namespace Go.Proofs.YtojkdfilabmafaaGreat
open Go.Own Go.Limbs
attribute [local irreducible] St Ops Go.Own.Fin Ok OkM
theorem goIndex_ints:InGo Tryz.prog 203:=InGo.of Tryz.func203 (by kernel_rfl) (by kernel_rfl)
theorem Index_ints(xs:List Int)(v:Int)(hl:xs.length<4611686018427387904):Ok Tryz.prog 203 [intsC xs,intC v] (intC (idxI (fun x=>decide (v=x)) xs)):=by
  refine Ok.enter Tryz.func203 J _ Tryz.ntmps203 J ?_
  intro S w;refine Qy (Qx fun K hK=> ?_);refine Qv J J J (Qj (hK _ _ (Qz (Qy (Qy ?_)))));clear hK K;refine Qx (fun K hK=> ?_);refine Qq J J J (Qh J J sInts.und (List.length_map ..) J (Qq J J J (Qj (hK _ _ (Qz (Q3 ?_))))));clear hK K
  refine Qs (α:=Nat) (fun i=>i≤xs.length∧∀j,j<i→decide (v=xs.getD j 0)=false)
    (fun i=>[(0, .ct (intsC xs)),(1, .ct (intC v)),(7, .ct (intC xs.length)),(8, .ct (intC i))]) (fun _=>[]) (fun i=>xs.length - i) 0 ⟨Nat.zero_le _,fun j h=>absurd h (Nat.not_lt_zero j)⟩ (by exact Qu J ⟨rfl,rfl,rfl,rfl,trivial⟩) ?_
  intro i ⟨hi,hv⟩;dsimp only;refine Qy (Qx fun K hK=> ?_);refine Qk ilss J J J J (Qj (hK _ _ (Qz (Qy ?_))));clear hK K;refine Q2 J (fun h=> ?_) (fun h=> ?_)
  · have e2:(i:Int).toNat=i:=Int.toNat_natCast i;refine QW (Qz (Qy (Q3 (Qy (Qx fun K hK=> ?_)))));refine Qq J J J (Qv J J J (Qj (hK _ _ (Qz (Qy ?_)))));clear hK K;refine Qx (fun K hK=> ?_);refine Qq J J J (Qq J J J (Qq J J J (Xx J J J sInts (by omega) (Xs (by omega) (by omega)) J ?_)));refine X1 J J J lInt J (Qk ieql J J J J (Qj (hK _ _ (Qz ?_))));clear hK K;refine Q2 J (fun h2=> ?_) (fun h2=> ?_)
    · rw [e2] at h2;refine Qy (Qx fun K hK=> ?_);refine Qq J J J (Qv J J J (Qj (hK _ _ (Qz (Q4 (Qb (QY (QY (Qb (QY ?_))))))))));clear hK K;refine Q1 [_] rfl (QX J QZ) (by rw [idxI_hit (p:=fun x=>decide (v=x)) (z:=0) (by omega) (decide_eq_true h2) hv];rfl) J
    · rw [e2] at h2;refine QW (Qz (Qx fun K hK=> ?_))
      refine Qk (iadd (by omega) (by omega)) J J J J ?_
      refine Qq J J J (Qj (hK _ _ (Q6 ?_)));clear hK K;refine Q9 (i+1) (by omega) ⟨by omega,?_⟩ (by exact Qu J ⟨rfl,rfl,rfl,by simp only [Int.natCast_add];rfl,trivial⟩);intro j hj;rcases Nat.lt_or_ge j i with h3|h3
      · exact hv j h3
      · have:j=i:=by omega
        rw [this];exact decide_eq_false h2
  · have hi' :i=xs.length:=by omega
    refine Qm (Qz (Qy (Qx fun K hK=> ?_)));refine Qv J J J (Qj (hK _ _ (Qz (Q4 ?_))));clear hK K;refine Q1 [_] rfl (QX J QZ) (by rw [idxI_miss (fun j hj=>hv j (by omega))];rfl) J
theorem whs_at{zs:List Int}{j:Int}(h0:0≤j)(h:j<(zs.length:Int)):(zs.map whCs)[j.toNat]? =some (whCs (zs.getD j.toNat 0)):=map_at whCs 0 h0 h
theorem goIndexFunc_whs:InGo Tryz.prog 204:=InGo.of Tryz.func204 (by kernel_rfl) (by kernel_rfl)
theorem IndexFunc_whs(xs:List Int)(f:FuncId)(p:Int→Bool)(hgo:InGo Tryz.prog f)(hf:∀x∈xs,Ok Tryz.prog f [whC x] (boolC (p x)))(hl:xs.length<4611686018427387904):Ok Tryz.prog 204 [whsC xs,(.ex (.func (.func f) #[] #[]))] (intC (idxI p xs)):=by
  refine Ok.enter Tryz.func204 J _ Tryz.ntmps204 J ?_
  intro S w;refine Qy (Qx fun K hK=> ?_);refine Qv J J J (Qj (hK _ _ (Qz (Qy (Qy ?_)))));clear hK K;refine Qx (fun K hK=> ?_);refine Qq J J J (Qh J J sWhs.und (List.length_map ..) J (Qq J J J (Qj (hK _ _ (Qz (Q3 ?_))))));clear hK K
  refine Qs (α:=Nat) (fun i=>i≤xs.length∧∀j,j<i→p (xs.getD j 0)=false)
    (fun i=>[(0, .ct (whsC xs)),(1, .ct (.ex (.func (.func f) #[] #[]))),(7, .ct (intC xs.length)),(8, .ct (intC i))]) (fun _=>[]) (fun i=>xs.length - i) 0 ⟨Nat.zero_le _,fun j h=>absurd h (Nat.not_lt_zero j)⟩ (by exact Qu J ⟨rfl,rfl,rfl,rfl,trivial⟩) ?_
  intro i ⟨hi,hv⟩;dsimp only;refine Qy (Qx fun K hK=> ?_);refine Qk ilss J J J J (Qj (hK _ _ (Qz (Qy ?_))));clear hK K;refine Q2 J (fun h=> ?_) (fun h=> ?_)
  · have e2:(i:Int).toNat=i:=Int.toNat_natCast i;refine QW (Qz (Qy (Q3 (Qy (Qx fun K hK=> ?_)))));refine Qq J J J (Qv J J J (Qj (hK _ _ (Qz (Qy ?_)))));clear hK K;refine Qx (fun K hK=> ?_);refine Qq J J J (Qq J J J (Qq J J J (Xx J J J sWhs (by omega) (whs_at (by omega) (by omega)) J ?_)));rw [e2];refine Xc (n:=2) J J J lWh J J (Ops.callF hgo J (hf _ (getD_mem (by omega))) J J J J ?_);refine Qj (hK _ _ (Qz ?_));clear hK K;refine X6 J (fun h2=> ?_) (fun h2=> ?_)
    · refine Qy (Qx fun K hK=> ?_);refine Qq J J J (Qv J J J (Qj (hK _ _ (Qz (Q4 (Qb (QY (QY (Qb (QY ?_))))))))));clear hK K;refine Q1 [_] rfl (QX J QZ) (by rw [idxI_hit (by omega) h2 hv];rfl) J
    · refine QW (Qz (Qx fun K hK=> ?_))
      refine Qk (iadd (by omega) (by omega)) J J J J ?_
      refine Qq J J J (Qj (hK _ _ (Q6 ?_)));clear hK K;refine Q9 (i+1) (by omega) ⟨by omega,?_⟩ (by exact Qu J ⟨rfl,rfl,rfl,by simp only [Int.natCast_add];rfl,trivial⟩);intro j hj;rcases Nat.lt_or_ge j i with h3|h3
      · exact hv j h3
      · have:j=i:=by omega
        rw [this];exact h2
  · have hi' :i=xs.length:=by omega
    refine Qm (Qz (Qy (Qx fun K hK=> ?_)));refine Qv J J J (Qj (hK _ _ (Qz (Q4 ?_))));clear hK K;refine Q1 [_] rfl (QX J QZ) (by rw [idxI_miss (fun j hj=>hv j (by omega))];rfl) J
theorem gostart1:InGo Tryz.prog 205:=InGo.of Tryz.func205 (by kernel_rfl) (by kernel_rfl)
theorem start1_ok(x:Int):Ok Tryz.prog 205 [whC x] (boolC (decide (x≠0))):=by
  refine Ok.enter Tryz.func205 J _ Tryz.ntmps205 J ?_
  intro S w;refine Qy (Qx fun K hK=> ?_);refine Xu 4 J J J J J J J (Qv J J J (Qj (hK _ _ (Qz (Qy ?_)))));clear hK K;refine Qx (fun K hK=> ?_);refine Qc (n:=2) J J J J J lWh J (QV gosign (Y3 x) J J J J (Qk ineq J J J J (Qv J J J (Qj (hK _ _ (Qz (Q4 ?_)))))));clear hK K
  refine Q1 [_] rfl (QX J QZ) ?_ J
  have:decide (x≠0)=decide (x.sign≠0):=by
    have:=sgn_eq (z:=x);by_cases h:x=0
    · simp [h]
    · simp [h]
  rw [this];rfl
end Go.Proofs.YtojkdfilabmafaaGreat
namespace Go.Own
variable {X : Ctx} {L : AL} {B : BL} {ops : Array Oper} {K : Act → World → Prop} {r : Pl} {k : Kd}
theorem Is.shrink{a:Act}{ρ:Nat→Value}{w:World}(hI:Is X L B a ρ w){i gb m c el n:Nat}{cs:List CT}(q:Nat)(hi:bget B i=some (.rowx (kh gb 0 m c) el n cs))(hl:cs.length=m*n)(hp:0<n)(hq:q≤m):
    Is X (Own.killL i L) (bset B i (.rowx (kh gb 0 q c) el n (cs.take (q*n)))) a (upd ρ i (kh gb 0 q c)) w:=by
  obtain ⟨hρ,vs,cur,hc,hlv,hgb,hmc,hcm,hcz,htk⟩:=hI.rowK hi hl hp;have hjn:q*n≤m*n:=Nat.mul_le_mul_right _ hq
  have hW:=Is.write (i:=i) (v:=kh gb 0 q c) (e' := .rowx (kh gb 0 q c) el n (cs.take (q*n))) (w' :=w) (hI.killL i) hi J J J (Nat.le_refl _) (fun _ _ _=>rfl) (.inl (by rw [hρ];rfl))
    (fun S' hk=>⟨rfl,q,vs.take (q*n),⟨by rw [List.length_take,hlv];omega, .inr ⟨gb,c,cur,rfl,Nat.zero_le _,hgb,by omega,hcm,hcz,by rw [←htk,List.take_take];congr 1;omega⟩⟩,(hc.take _).mono hk⟩) (.inr (noN_killL i L)) (.inr J)
  exact hW.bext (Xf hi)
theorem Ops.shrink{l:Pl}{gb m c el n:Nat}{cs:List CT}(i q:Nat)(hi:bget B i=some (.rowx (kh gb 0 m c) el n cs))(hl:cs.length=m*n)(hp:0<n)(hq:q≤m)
    (h:Ops X ops l (killL i L) (bset B i (.rowx (kh gb 0 q c) el n (cs.take (q*n)))) K):Ops X ops l L B K:=fun a ρ w hI=>h a (upd ρ i (kh gb 0 q c)) w (hI.shrink q hi hl hp hq)
end Go.Own
namespace Go.Proofs.YtojkdfilabmafaaGreat
open Go.Own Go.Limbs
def Tv.wh (T H : Tv) : Tv := { T with hR := H.hR, hB := H.hB, hC := H.hC, hl := H.hl }
theorem pvt_wh(T H:Tv)(r s:Nat):pvt (T.wh H) r s=(pvt T r s).wh H:=rfl
theorem Gd.wh{T H:Tv}(G:Gd T)(h:H.hl.length=T.rows.length):Gd (T.wh H):=⟨⟨h,G.fit.row,G.fit.bas,G.fit.few,G.fit.thin⟩,G.short,G.den,G.dens⟩
theorem levS_wh(T H:Tv)(s:Nat):∀i,levS (T.wh H) s i=levS T s i
  |0=>rfl
  |i+1=>by simp only [levS,levS_wh T H s i];rfl
theorem RunOk.wh{gi:Nat}{T' H:Tv}{s:Int}:∀{k:Nat} {T:Tv},RunOk gi T' s k T→H.hl.length=T.rows.length→RunOk gi (T'.wh H) s k (T.wh H)
  |0,T,⟨G,h1,h2⟩,hl=>⟨G.wh hl,by rw [h1],by rw [levS_wh];exact h2⟩
  |k+1,T,⟨G,h1,h2,h3⟩,hl=>by
    refine ⟨G.wh hl,h1,?_,?_⟩
    · rw [levS_wh];exact h2
    · rw [levS_wh];exact RunOk.wh h3 (by rw [Xe];exact hl)
theorem pvt_bas(T:Tv)(r s:Nat):(pvt T r s).bas.length=T.bas.length:=by simp [pvt]
theorem Z8(T:Tv)(r s:Nat):(pvt T r s).col.length=T.col.length:=by simp [pvt]
theorem RunOk.lens{gi:Nat}{T' :Tv}{s:Int}:∀{k:Nat} {T:Tv},RunOk gi T' s k T→T'.rows.length=T.rows.length∧T'.bas.length=T.bas.length∧T'.col.length=T.col.length
  |0,T,⟨G,h1,h2⟩=>by subst h1;exact ⟨rfl,rfl,rfl⟩
  |k+1,T,⟨G,h1,h2,h3⟩=>by
    have:=RunOk.lens h3
    rw [Xe,pvt_bas,Z8] at this
    exact this
theorem RunOk.last{gi:Nat}{T' :Tv}{s:Int}:∀{k:Nat} {T:Tv},RunOk gi T' s k T→Gd T'
  |0,T,⟨G,h1,h2⟩=>by subst h1;exact G
  |k+1,T,⟨G,h1,h2,h3⟩=>RunOk.last h3
def wrS (T : Tv) : Nat → Int
  | 0 => -1
  | i + 1 => if T.at i T.col.length < 0 ∧ (wrS T i < 0 ∨ T.at i T.col.length + -(T.at (wrS T i).toNat T.col.length) < 0) then i else wrS T i
theorem wrS_bd(T:Tv):∀i, -1≤wrS T i∧wrS T i<i
  |0=>by simp [wrS]
  |i+1=>by
    have:=wrS_bd T i
    simp only [wrS]
    split <;>omega
def insX (m k : Nat) : Int := if k < m then -1 else if k = m + 1 then 1 else 0
def insL (m q k : Nat) (l : List Int) : List Int := l.take q ++ insX m k :: l.drop q
theorem insL_len{m q k:Nat}{l:List Int}(h:q≤l.length):(insL m q k l).length=l.length+1:=by
  unfold insL;rw [List.length_append,List.length_cons,List.length_take,List.length_drop];omega
def insP (m q : Nat) (rows : List (List Int)) (i : Nat) : List (List Int) := (List.range rows.length).map fun k => if k < i then insL m q k (rows.getD k []) else rows.getD k []
theorem insP_len(m q:Nat)(rows:List (List Int))(i:Nat):(insP m q rows i).length=rows.length:=by simp [insP]
theorem insP_zero(m q:Nat)(rows:List (List Int)):insP m q rows 0=rows:=by
  unfold insP;rw [show (fun k=>if k<0 then insL m q k (rows.getD k []) else rows.getD k [])=fun k=>rows.getD k [] by funext k;rw [if_neg (by omega)]];exact Yu rows []
theorem insP_at(m q:Nat)(rows:List (List Int))(i:Nat)(h:i<rows.length):(insP m q rows i).getD i []=rows.getD i []:=by
  unfold insP;rw [ZW _ _ _ h,if_neg (by omega)]
theorem insP_set(m q:Nat)(rows:List (List Int))(i:Nat)(h:i<rows.length):(insP m q rows i).set i (insL m q i (rows.getD i []))=insP m q rows (i+1):=by
  unfold insP;refine YY _ _ _ i _ h (fun j hj=> ?_);by_cases e:j=i
  · subst e;rw [if_pos rfl,if_pos (by omega)]
  · rw [if_neg e];by_cases h2:j<i
    · rw [if_pos h2,if_pos (by omega)]
    · rw [if_neg h2,if_neg (by omega)]
def insT (T : Tv) (art : Int) : Tv := { T with rows := insP T.bas.length T.col.length (T.rows ++ [List.replicate (T.col.length + 1) 0]) (T.rows.length + 1), col := T.col ++ [art], hl := T.hl ++ [default] }
def fIx (xs : List Int) (v : Int) : Int := idxI (fun x => decide (v = x)) xs
theorem idxI_bd{α:Type}(p:α→Bool)(xs:List α): -1≤idxI p xs∧idxI p xs<xs.length:=by
  unfold idxI;split
  · rename_i h
    have h1:=List.findIdx_lt_length_of_exists (p:=p) (xs:=xs) (by simpa using h);omega
  · omega
def nzC (E : Tv) (last : Nat) (art : Int) : Int := idxI (fun x => decide (x ≠ 0)) ((E.rows.getD (fIx E.bas art).toNat []).take (last + 1))
def stE2 (E : Tv) (last : Nat) (art : Int) : Tv := if fIx E.bas art < 0 then E else pvt E (fIx E.bas art).toNat (nzC E last art).toNat
def delP (c : Nat) (rows : List (List Int)) (i : Nat) : List (List Int) := (List.range rows.length).map fun k => if k < i then (rows.getD k []).eraseIdx c else rows.getD k []
theorem delP_len(c:Nat)(rows:List (List Int))(i:Nat):(delP c rows i).length=rows.length:=by simp [delP]
theorem delP_zero(c:Nat)(rows:List (List Int)):delP c rows 0=rows:=by
  unfold delP;rw [show (fun k=>if k<0 then (rows.getD k []).eraseIdx c else rows.getD k [])=fun k=>rows.getD k [] by funext k;rw [if_neg (by omega)]];exact Yu rows []
theorem delP_at(c:Nat)(rows:List (List Int))(i:Nat)(h:i<rows.length):(delP c rows i).getD i []=rows.getD i []:=by
  unfold delP;rw [ZW _ _ _ h,if_neg (by omega)]
theorem delP_set(c:Nat)(rows:List (List Int))(i:Nat)(h:i<rows.length):(delP c rows i).set i ((rows.getD i []).eraseIdx c)=delP c rows (i+1):=by
  unfold delP;refine YY _ _ _ i _ h (fun j hj=> ?_);by_cases e:j=i
  · subst e;rw [if_pos rfl,if_pos (by omega)]
  · rw [if_neg e];by_cases h2:j<i
    · rw [if_pos h2,if_pos (by omega)]
    · rw [if_neg h2,if_neg (by omega)]
def stE3 (E : Tv) (m last : Nat) (art : Int) : Tv :=
  let E2 := stE2 E last art
  { E2 with rows := delP (fIx E2.col art).toNat (E2.rows.take (m + 1)) (m + 1), col := E2.col.eraseIdx (fIx E2.col art).toNat, hl := E2.hl.take (m + 1) }
structure StartRun (T : Tv) (art : Int) (E : Tv) : Prop where
  worst : 0 ≤ wrS T T.bas.length
  gd : Gd (insT T art)
  run : ∃ s k, RunOk (T.bas.length + 1) E s k (pvt (insT T art) (wrS T T.bas.length).toNat T.col.length)
  piv : ¬ E.at (T.bas.length + 1) (T.col.length + 1) < 0 → 0 ≤ fIx E.bas art → 0 ≤ nzC E T.col.length art
  fit2 : ¬ E.at (T.bas.length + 1) (T.col.length + 1) < 0 → Fit (stE2 E T.col.length art)
  out : ¬ E.at (T.bas.length + 1) (T.col.length + 1) < 0 → 0 ≤ fIx (stE2 E T.col.length art).col art
def stRes (T E : Tv) : Bool := decide (wrS T T.bas.length < 0) || !decide (E.at (T.bas.length + 1) (T.col.length + 1) < 0)
def stOut (T E : Tv) (art : Int) : Tv := if wrS T T.bas.length < 0 then T else if E.at (T.bas.length + 1) (T.col.length + 1) < 0 then E else stE3 E T.bas.length T.col.length art
theorem lines_set2:∀(k:Nat) (hl:List Value) (zs:List (List Int)) (i:Nat) (h:Value) (y:List Int),i<hl.length→i<zs.length→∀j,bget (linesB k (hl.set i h) (zs.set i y)) j=bget ((i+k, .rowx h 211 2 (whs y))::linesB k hl zs) j
  |_,[],_,_,_,_,h1,_,_=>by simp at h1
  |_,_::_,[],_,_,_,_,h2,_=>by simp at h2
  |k,a::hl,z::zs,0,h,y,_,_,j=>by
    show bget ((k, .rowx h 211 2 (whs y))::linesB (k+1) hl zs) j=_
    by_cases hk:k=j
    · subst hk;rw [Qd,Nat.zero_add,Qd]
    · rw [QU _ _ hk,QU _ _ (by omega)]
      show _=bget ((k,_)::linesB (k+1) hl zs) j
      rw [QU _ _ hk]
  |k,a::hl,z::zs,i+1,h,y,h1,h2,j=>by
    have ih:=lines_set2 (k+1) hl zs i h y (by simpa using h1) (by simpa using h2) j
    show bget ((k, .rowx a 211 2 (whs z))::linesB (k+1) (hl.set i h) (zs.set i y)) j=_
    by_cases hk:k=j
    · subst hk
      rw [Qd,QU _ _ (by omega)]
      show _=bget ((k,_)::linesB (k+1) hl zs) k
      rw [Qd]
    · rw [QU _ _ hk,ih]
      by_cases h3:i+(k+1)=j
      · subst h3;rw [Qd,show i+1+k=i+(k+1) by omega,Qd]
      · rw [QU _ _ h3,QU _ _ (by omega)]
        show _=bget ((k,_)::linesB (k+1) hl zs) j
        rw [QU _ _ hk]
theorem bget_bset'{B:BL}{i:Nat}{e0 f:Ent}(h:bget B i=some e0)(j:Nat):bget (bset B i f) j=if i=j then some f else bget B j:=by
  rw [Xf h];split
  · rename_i h;subst h;rw [Qd]
  · rename_i h;rw [QU _ _ h]
theorem upd_B{e0 e1 e1' e2 e3:Ent}{hl:List Value}{zs:List (List Int)}{i:Nat}{h:Value}{y:List Int}(h1:i<hl.length)(h2:i<zs.length):
    ∀j,bget ((0,e0)::(1,e1')::(2,e2)::(3,e3)::linesB 10 (hl.set i h) (zs.set i y)) j=bget (bset ((i+10, .rowx h 211 2 (whs y))::bdel ((0,e0)::(1,e1)::(2,e2)::(3,e3)::linesB 10 hl zs) (i+10)) 1 e1') j:=fun j=>by
  have g1:bget ((i+10, .rowx h 211 2 (whs y))::bdel ((0,e0)::(1,e1)::(2,e2)::(3,e3)::linesB 10 hl zs) (i+10)) 1=some e1:=by
    rw [QU _ _ (by omega),XK _ (by omega)];rfl
  rw [bget_bset' g1];by_cases hj1:1=j
  · subst hj1;rw [if_pos rfl];rfl
  rw [if_neg hj1];by_cases hji:i+10=j
  · subst hji;rw [Qd];show bget (linesB 10 (hl.set i h) (zs.set i y)) (i+10)=_;rw [lines_set2 10 hl zs i h y h1 h2,Qd]
  · rw [QU _ _ hji,XK _ (Ne.symm hji)]
    match j,hj1,hji with
    |0,_,_=>rfl
    |1,h,_=>exact absurd J h
    |2,_,_=>rfl
    |3,_,_=>rfl
    |j+4,_,hji=>
      show bget (linesB 10 (hl.set i h) (zs.set i y)) (j+4)=bget (linesB 10 hl zs) (j+4);rw [lines_set2 10 hl zs i h y h1 h2,QU _ _ hji]
theorem upd_B4{e4 e0 e1 e1' e2 e3:Ent}{hl:List Value}{zs:List (List Int)}{i:Nat}{h:Value}{y:List Int}(h1:i<hl.length)(h2:i<zs.length):
    ∀j,bget ((0,e0)::(1,e1')::(2,e2)::(3,e3)::linesB 10 (hl.set i h) (zs.set i y)) j=bget (bdel (bset ((i+10, .rowx h 211 2 (whs y))::bdel ((4,e4)::(0,e0)::(1,e1)::(2,e2)::(3,e3)::linesB 10 hl zs) (i+10)) 1 e1') 4) j:=fun j=>by
  by_cases h4:j=4
  · subst h4;rw [Zj];exact Z1 10 _ _ 4 (by decide)
  rw [XK _ h4,upd_B (e1:=e1) h1 h2]
  have g1:∀B' :BL,(∀j,j≠4→bget B' j=bget ((0,e0)::(1,e1)::(2,e2)::(3,e3)::linesB 10 hl zs) j)→bget ((i+10,Ent.rowx h 211 2 (whs y))::bdel B' (i+10)) 1=some e1:=fun B' hB=>by
    rw [QU _ _ (by omega),XK _ (by omega),hB 1 (by decide)];rfl
  rw [bget_bset' (g1 _ (fun _ _=>rfl)),bget_bset' (g1 ((4,e4)::(0,e0)::(1,e1)::(2,e2)::(3,e3)::linesB 10 hl zs) (fun j hj=>QU _ _ (Ne.symm hj)))]
  split
  · rfl
  · by_cases hji:i+10=j
    · subst hji;rw [Qd,Qd]
    · rw [QU _ _ hji,QU _ _ hji,XK _ (Ne.symm hji),XK _ (Ne.symm hji),QU _ _ (Ne.symm h4)]
theorem lines_take:∀(k q:Nat) (hl:List Value) (zs:List (List Int)) (j:Nat),j<q+k→bget (linesB k (hl.take q) (zs.take q)) j=bget (linesB k hl zs) j
  |k,0,hl,zs,j,hj=>by
    rw [List.take_zero,List.take_zero,Z1 k hl zs j (by omega)];rfl
  |k,q+1,[],zs,j,hj=>by simp [linesB]
  |k,q+1,_::_,[],j,hj=>by simp [linesB]
  |k,q+1,h::hl,z::zs,j,hj=>by
    show bget ((k, .rowx h 211 2 (whs z))::linesB (k+1) (hl.take q) (zs.take q)) j=bget ((k, .rowx h 211 2 (whs z))::linesB (k+1) hl zs) j
    by_cases hk:k=j
    · subst hk;rw [Qd,Qd]
    · rw [QU _ _ hk,QU _ _ hk,lines_take (k+1) q hl zs j (by omega)]
theorem drop_B{e0 e1 e2 e3:Ent}{hl:List Value}{zs:List (List Int)}{q:Nat}(h1:hl.length=q+1)(h2:zs.length=q+1):
    ∀j,bget ((0,e0)::(1,e1)::(2,e2)::(3,e3)::linesB 10 (hl.take q) (zs.take q)) j=bget (bdel ((0,e0)::(1,e1)::(2,e2)::(3,e3)::linesB 10 hl zs) (q+10)) j:=fun j=>by
  by_cases hj:j=q+10
  · subst hj
    rw [Zj]
    show bget (linesB 10 (hl.take q) (zs.take q)) (q+10)=none
    exact lines_ge (.inl (by rw [List.length_take];omega))
  · rw [XK _ hj]
    match j,hj with
    |0,_=>rfl
    |1,_=>rfl
    |2,_=>rfl
    |3,_=>rfl
    |j+4,hj=>
      show bget (linesB 10 (hl.take q) (zs.take q)) (j+4)=bget (linesB 10 hl zs) (j+4)
      rcases Nat.lt_or_ge (j+4) (q+10) with h3|h3
      · exact lines_take 10 q hl zs (j+4) (by omega)
      · have e:j+4=(j - 6)+10:=by omega
        rw [e,lines_ge (.inl (by rw [List.length_take];omega)),lines_ge (.inl (by omega))]
end Go.Proofs.YtojkdfilabmafaaGreat
namespace Go.Det
abbrev Vec := Nat → Int
def exps (f : List Vec → Int) (r : Nat) : List Vec → List Vec → Int
  | _, [] => 0
  | p, c :: q => c r * f (p ++ q) - exps f r (p ++ [c]) q
def det : Nat → Nat → List Vec → Int
  | 0, _, _ => 1
  | k + 1, r, cs => exps (det k (r + 1)) r [] cs
def lin (x : Int) (u : Vec) (y : Int) (w : Vec) : Vec := fun i => x * u i + y * w i
def Lin (f : List Vec → Int) : Prop := ∀ (A C : List Vec) (x y : Int) (u w : Vec), f (A ++ lin x u y w :: C) = x * f (A ++ u :: C) + y * f (A ++ w :: C)
theorem exps_lin_pre{f:List Vec→Int}(hf:Lin f)(r:Nat)(x y:Int)(u w:Vec):∀(q P Q:List Vec),
    exps f r (P++lin x u y w::Q) q=x*exps f r (P++u::Q) q+y*exps f r (P++w::Q) q
  | [],_,_=>by simp [exps]
  |c::q,P,Q=>by
    have ih:=exps_lin_pre hf r x y u w q P (Q++ [c])
    have h:=hf P (Q++q) x y u w
    simp only [exps,List.append_assoc,List.cons_append] at*
    rw [ih,h];grind
theorem det_lin' :∀(k r:Nat) (A C:List Vec) (x y:Int) (u w:Vec),A.length+1+C.length=k→
    det k r (A++lin x u y w::C)=x*det k r (A++u::C)+y*det k r (A++w::C):=by
  intro k
  induction k with
  |zero=>intro r A C x y u w h;omega
  |succ k ih=>
    intro r A C x y u w h
    have key:∀(q P Q:List Vec),P.length+1+Q.length+q.length=k+1→
        exps (det k (r+1)) r (P++lin x u y w::Q) q=x*exps (det k (r+1)) r (P++u::Q) q+y*exps (det k (r+1)) r (P++w::Q) q:=by
      intro q
      induction q with
      |nil=>intro P Q _;simp [exps]
      |cons c q ih2=>
        intro P Q hl;have i2:=ih2 P (Q++ [c]) (by simp at hl ⊢;omega);have i1:=ih (r+1) P (Q++q) x y u w (by simp at hl ⊢;omega);simp only [exps,List.append_assoc,List.cons_append] at*;rw [i2,i1];grind
    have key2:∀(A C P:List Vec),P.length+A.length+1+C.length=k+1→
        exps (det k (r+1)) r P (A++lin x u y w::C)=x*exps (det k (r+1)) r P (A++u::C)+y*exps (det k (r+1)) r P (A++w::C):=by
      intro A
      induction A with
      |nil=>
        intro C P hl;have i2:=key C P [] (by simp at hl ⊢;omega);simp only [exps,List.nil_append] at*;rw [i2];simp only [lin];grind
      |cons a A ih2=>
        intro C P hl;have i2:=ih2 C (P++ [a]) (by simp at hl ⊢;omega);have i1:=ih (r+1) (P++A) C x y u w (by simp at hl ⊢;omega);simp only [exps,List.append_assoc,List.cons_append] at*;rw [i2,i1];grind
    exact key2 A C [] (by simp;omega)
theorem det_adj:∀(k r:Nat) (A C:List Vec) (u:Vec),A.length+2+C.length=k→det k r (A++u::u::C)=0:=by
  intro k
  induction k with
  |zero=>intro r A C u h;omega
  |succ k ih=>
    intro r A C u h
    have key:∀(q P Q:List Vec),P.length+2+Q.length+q.length=k+1→exps (det k (r+1)) r (P++u::u::Q) q=0:=by
      intro q
      induction q with
      |nil=>intro P Q _;rfl
      |cons c q ih2=>
        intro P Q hl;have i2:=ih2 P (Q++ [c]) (by simp at hl ⊢;omega);have i1:=ih (r+1) P (Q++q) u (by simp at hl ⊢;omega);simp only [exps,List.append_assoc,List.cons_append] at*;rw [i2,i1];grind
    have key2:∀(A C P:List Vec),P.length+A.length+2+C.length=k+1→exps (det k (r+1)) r P (A++u::u::C)=0:=by
      intro A
      induction A with
      |nil=>
        intro C P hl;have i2:=key C P [] (by simp at hl ⊢;omega);simp only [exps,List.nil_append,List.append_assoc,List.cons_append] at*;rw [i2];grind
      |cons a A ih2=>
        intro C P hl;have i2:=ih2 C (P++ [a]) (by simp at hl ⊢;omega);have i1:=ih (r+1) (P++A) C u (by simp at hl ⊢;omega);simp only [exps,List.append_assoc,List.cons_append] at*;rw [i2,i1];grind
    exact key2 A C [] (by simp;omega)
def dt (cs : List Vec) : Int := det cs.length 0 cs
theorem dt_lin(A C:List Vec)(x y:Int)(u w:Vec):dt (A++lin x u y w::C)=x*dt (A++u::C)+y*dt (A++w::C):=by
  unfold dt
  have e:∀z:Vec,(A++z::C).length=A.length+1+C.length:=fun z=>by simp;omega
  rw [e,e,e];exact det_lin' _ _ A C x y u w J
theorem dt_adj(A C:List Vec)(u:Vec):dt (A++u::u::C)=0:=by
  unfold dt;exact det_adj _ _ A C u (by simp;omega)
theorem dt_swap1(A C:List Vec)(u w:Vec):dt (A++u::w::C)= - dt (A++w::u::C):=by
  have h:=dt_adj A C (lin 1 u 1 w);rw [dt_lin A] at h;have h1:=dt_lin (A++ [u]) C 1 1 u w;have h2:=dt_lin (A++ [w]) C 1 1 u w;simp only [List.append_assoc,List.cons_append,List.nil_append] at h1 h2;rw [h1,h2,dt_adj,dt_adj] at h;omega
theorem dt_eq(u:Vec):∀(M A C:List Vec),dt (A++u::(M++u::C))=0
  | [],A,C=>dt_adj A C u
  |m::M,A,C=>by
    rw [List.cons_append,dt_swap1]
    have:=dt_eq u M (A++ [m]) C
    simp only [List.append_assoc,List.cons_append,List.nil_append] at this
    rw [this];rfl
theorem dt_swap(A M C:List Vec)(u w:Vec):dt (A++u::(M++w::C))= - dt (A++w::(M++u::C)):=by
  have h:=dt_eq (lin 1 u 1 w) M A C;rw [dt_lin A] at h;have h1:=dt_lin (A++u::M) C 1 1 u w;have h2:=dt_lin (A++w::M) C 1 1 u w;simp only [List.append_assoc,List.cons_append,List.nil_append] at h1 h2;rw [h1,h2,dt_eq,dt_eq] at h;omega
def unit (i : Nat) : Vec := fun j => if j = i then 1 else 0
theorem exps_zero(f:List Vec→Int)(r:Nat):∀(q P:List Vec),(∀c∈q,c r=0)→exps f r P q=0
  | [],_,_=>rfl
  |c::q,P,h=>by
    simp only [exps]
    rw [h c (List.mem_cons_self ..),exps_zero f r q _ (fun c hc=>h c (List.mem_cons_of_mem _ hc))];simp
theorem det_unit:∀(k r:Nat),det k r ((List.range' r k).map unit)=1
  |0,_=>rfl
  |k+1,r=>by
    rw [List.range'_succ,List.map_cons,det,exps,exps_zero]
    · rw [List.nil_append,det_unit k (r+1)];simp [unit]
    · intro c hc
      obtain ⟨i,hi,rfl⟩:=List.mem_map.1 hc
      rw [List.mem_range'_1] at hi
      simp only [unit];rw [if_neg (by omega)]
theorem dt_unit(k:Nat):dt ((List.range k).map unit)=1:=by
  unfold dt;rw [List.length_map,List.length_range,List.range_eq_range'];exact det_unit k 0
def fact : Nat → Nat
  | 0 => 1
  | n + 1 => (n + 1) * fact n
theorem exps_bd{f:List Vec→Int}{r:Nat}{M F:Nat}:∀(q P:List Vec),(∀c∈q,(c r).natAbs≤M)→(∀A B c,q=A++c::B→(f (P++A++B)).natAbs≤F)→(exps f r P q).natAbs≤q.length*(M*F)
  | [],_,_,_=>by simp [exps]
  |c::q,P,h,hf=>by
    have i:=exps_bd (f:=f) (r:=r) (M:=M) (F:=F) q (P++ [c]) (fun c hc=>h c (List.mem_cons_of_mem _ hc)) (fun A B d e=>by
      have:=hf (c::A) B d (by rw [e];rfl)
      simpa using this)
    have h1:=h c (List.mem_cons_self ..)
    have h2:=hf [] q c rfl
    simp only [List.append_nil] at h2
    have h3:(c r*f (P++q)).natAbs≤M*F:=by rw [Int.natAbs_mul];exact Nat.mul_le_mul h1 h2
    simp only [exps,List.length_cons,Nat.add_mul,Nat.one_mul]
    omega
theorem det_bd{M:Nat}:∀(k r:Nat) (cs:List Vec),cs.length=k→(∀c∈cs,∀i,(c i).natAbs≤M)→(det k r cs).natAbs≤fact k*M ^ k
  |0,_,_,_,_=>by simp [det,fact]
  |k+1,r,cs,hl,h=>by
    have:=exps_bd (f:=det k (r+1)) (r:=r) (M:=M) (F:=fact k*M ^ k) cs [] (fun c hc=>h c hc r) (fun A B c e=>by
      refine det_bd k (r+1) _ (by subst e;simp at hl ⊢;omega) (fun d hd i=>h d ?_ i)
      subst e
      simp only [List.nil_append,List.mem_append,List.mem_cons] at hd ⊢
      rcases hd with hd|hd
      · exact .inl hd
      · exact .inr (.inr hd))
    rw [hl] at this
    simp only [det,fact,Nat.pow_succ]
    refine Nat.le_trans this (Nat.le_of_eq ?_)
    grind
theorem dt_bd{M:Nat}(cs:List Vec)(h:∀c∈cs,∀i,(c i).natAbs≤M):(dt cs).natAbs≤fact cs.length*M ^ cs.length:=det_bd _ _ cs rfl h
def sm (f : Nat → Int) : Nat → Int
  | 0 => 0
  | k + 1 => sm f k + f k
theorem Xa{f g:Nat→Int}:∀{n:Nat},(∀k,k<n→f k=g k)→sm f n=sm g n
  |0,_=>rfl
  |n+1,h=>by simp only [sm];rw [Xa fun k hk=>h k (by omega),h n (by omega)]
theorem ZV{f:Nat→Int}:∀{n:Nat},(∀k,k<n→f k=0)→sm f n=0
  |0,_=>rfl
  |n+1,h=>by simp only [sm];rw [ZV fun k hk=>h k (by omega),h n (by omega)];rfl
theorem Yz(c:Int)(f:Nat→Int):∀n:Nat,sm (fun k=>c*f k) n=c*sm f n
  |0=>by simp [sm]
  |n+1=>by simp only [sm];rw [Yz c f n,Int.mul_add]
theorem sm_add(f g:Nat→Int):∀n:Nat,sm (fun k=>f k+g k) n=sm f n+sm g n
  |0=>rfl
  |n+1=>by simp only [sm];rw [sm_add f g n];omega
theorem Yj{f:Nat→Int}{i:Nat}:∀{n:Nat},i<n→(∀k,k<n→k≠i→f k=0)→sm f n=f i
  |0,h,_=>by omega
  |n+1,h,hz=>by
    simp only [sm]
    by_cases e:i=n
    · subst e;rw [ZV fun k hk=>hz k (by omega) (by omega)];omega
    · rw [Yj (by omega:i<n) fun k hk hki=>hz k (by omega) hki,hz n (by omega) (Ne.symm e)];omega
theorem sm_two{f:Nat→Int}{i r:Nat}:∀{n:Nat},i<n→r<n→i≠r→(∀k,k<n→k≠i→k≠r→f k=0)→sm f n=f i+f r
  |0,h,_,_,_=>by omega
  |n+1,h,h2,hn,hz=>by
    simp only [sm]
    by_cases e:i=n
    · subst e;rw [Yj (by omega:r<i) fun k hk hki=>hz k (by omega) (by omega) hki];omega
    · by_cases e2:r=n
      · subst e2;rw [Yj (by omega:i<r) fun k hk hki=>hz k (by omega) hki (by omega)]
      · rw [sm_two (by omega:i<n) (by omega:r<n) hn fun k hk h3 h4=>hz k (by omega) h3 h4,hz n (by omega) (Ne.symm e) (Ne.symm e2)];omega
theorem sm_pos{f:Nat→Int}:∀{n:Nat},0<sm f n→∃k,k<n∧0<f k
  |0,h=>by simp [sm] at h
  |n+1,h=>by
    simp only [sm] at h
    by_cases h1:0<f n
    · exact ⟨n,by omega,h1⟩
    · obtain ⟨k,hk,h2⟩:=sm_pos (f:=f) (n:=n) (by omega)
      exact ⟨k,by omega,h2⟩
theorem sm_le{f g:Nat→Int}:∀{n:Nat},(∀k,k<n→f k≤g k)→sm f n≤sm g n
  |0,_=>Int.le_refl _
  |n+1,h=>by simp only [sm];have:=sm_le (n:=n) fun k hk=>h k (by omega);have:=h n (by omega);omega
theorem sm_swap(a:Nat→Nat→Int)(m:Nat):∀n:Nat,sm (fun j=>sm (fun i=>a i j) m) n=sm (fun i=>sm (fun j=>a i j) n) m
  |0=>by simp only [sm];rw [ZV];intros;rfl
  |n+1=>by simp only [sm];rw [sm_swap a m n,sm_add]
theorem set_split{α:Type}{l:List α}{i:Nat}(h:i<l.length)(x:α):l.set i x=l.take i++x::l.drop (i+1):=List.set_eq_take_append_cons_drop .. |>.trans (by rw [if_pos h])
theorem dt_set_lin{l:List Vec}{i:Nat}(h:i<l.length)(x y:Int)(u w:Vec):dt (l.set i (lin x u y w))=x*dt (l.set i u)+y*dt (l.set i w):=by
  rw [set_split h,set_split h,set_split h,dt_lin]
theorem two_split{α:Type}{l:List α}{i r:Nat}(h:i<r)(hr:r<l.length)(x y:α):∃P M C:List α,(l.set i x).set r y=P++x::(M++y::C)∧∀x' y' :α,(l.set i x').set r y' =P++x' ::(M++y' ::C):=by
  have key:∀x' y' :α,(l.set i x').set r y' =l.take i++x' ::((l.drop (i+1)).take (r - (i+1))++y' ::l.drop (r+1)):=fun x' y' =>by
    rw [set_split (by omega) x',List.set_append_right _ _ (by rw [List.length_take];omega)]
    congr 1
    have e:r - (List.take i l).length=(r - (i+1))+1:=by rw [List.length_take];omega
    rw [e,List.set_cons_succ,set_split (by rw [List.length_drop];omega)]
    congr 3
    rw [List.drop_drop];congr 1;omega
  exact ⟨_,_,_,key x y,key⟩
theorem dt_set_eq{l:List Vec}{i r:Nat}(hi:i<l.length)(hr:r<l.length)(h:i≠r)(u:Vec):dt ((l.set i u).set r u)=0:=by
  rcases Nat.lt_or_gt_of_ne h with h1|h1
  · obtain ⟨P,M,C,e,_⟩:=two_split h1 hr u u;rw [e];exact dt_eq u M P C
  · rw [List.set_comm _ _ h];obtain ⟨P,M,C,e,_⟩:=two_split h1 hi u u;rw [e];exact dt_eq u M P C
theorem dt_set_swap{l:List Vec}{i r:Nat}(hi:i<l.length)(hr:r<l.length)(h:i≠r)(u w:Vec):dt ((l.set i u).set r w)= - dt ((l.set i w).set r u):=by
  rcases Nat.lt_or_gt_of_ne h with h1|h1
  · obtain ⟨P,M,C,_,e⟩:=two_split h1 hr u w;rw [e,e];exact dt_swap P M C u w
  · rw [List.set_comm _ _ h,List.set_comm _ _ h];obtain ⟨P,M,C,_,e⟩:=two_split h1 hi u w;rw [e,e];exact dt_swap P M C w u
def zv : Vec := fun _ => 0
def comb (c : Nat → Int) (u : Nat → Vec) (n : Nat) : Vec := fun i => sm (fun k => c k * u k i) n
theorem dt_set_zero{l:List Vec}{i:Nat}(h:i<l.length):dt (l.set i zv)=0:=by
  have:=dt_set_lin h 0 0 zv zv;rw [show lin 0 zv 0 zv=zv from funext fun j=>by simp [lin,zv]] at this
  simpa using this
theorem Yw{l:List Vec}{i:Nat}(h:i<l.length)(c:Nat→Int)(u:Nat→Vec):∀n,dt (l.set i (comb c u n))=sm (fun k=>c k*dt (l.set i (u k))) n
  |0=>by
    rw [show comb c u 0=zv by funext j;rfl,dt_set_zero h];rfl
  |n+1=>by
    have e:comb c u (n+1)=lin 1 (comb c u n) (c n) (u n):=by funext j;simp [comb,lin,sm]
    rw [e,dt_set_lin h,Yw h c u n];simp [sm]
theorem dt_set_smul{l:List Vec}{i:Nat}(h:i<l.length)(x:Int)(u:Vec):dt (l.set i (fun j=>x*u j))=x*dt (l.set i u):=by
  have:=dt_set_lin h x 0 u zv;rw [show lin x u 0 zv=fun j=>x*u j from funext fun j=>by simp [lin]] at this;rw [this];simp
section
variable (A : Nat → Vec)
def cols (bs : List Nat) : List Vec := bs.map A
def dD (bs : List Nat) : Int := dt (cols A bs)
def dT (bs : List Nat) (i : Nat) (x : Vec) : Int := dt ((cols A bs).set i x)
end
variable {A : Nat → Vec} {M : Nat} {bs : List Nat}
theorem Zu:(cols A bs).length=bs.length:=by simp [cols]
theorem cols_set(r s:Nat):cols A (bs.set r s)=(cols A bs).set r (A s):=by simp [cols,List.map_set]
theorem cols_at{k:Nat}(h:k<bs.length):(cols A bs)[k]? =some (A (bs.getD k 0)):=by simp [cols,List.getD_eq_getElem?_getD,h]
theorem set_same{α:Type}{l:List α}{i:Nat}{x:α}(h:l[i]? =some x):l.set i x=l:=by
  obtain ⟨h1,h2⟩:=List.getElem?_eq_some_iff.1 h;rw [←h2];exact List.set_getElem_self h1
theorem dT_own{i:Nat}(h:i<bs.length):dT A bs i (A (bs.getD i 0))=dD A bs:=by
  unfold dT dD;rw [set_same (cols_at h)]
theorem dT_other{i k:Nat}(hi:i<bs.length)(hk:k<bs.length)(h:k≠i):dT A bs i (A (bs.getD k 0))=0:=by
  unfold dT
  have e:(cols A bs).set i (A (bs.getD k 0))=((cols A bs).set k (A (bs.getD k 0))).set i (A (bs.getD k 0)):=by rw [set_same (cols_at hk)]
  rw [e];exact dt_set_eq (by rw [Zu];exact hk) (by rw [Zu];exact hi) h _
theorem dup_zero{i k:Nat}(hi:i<bs.length)(hk:k<bs.length)(h:k≠i)(he:bs.getD i 0=bs.getD k 0):dD A bs=0:=by
  rw [←dT_own hi,he];exact dT_other hi hk h
structure Bas (A : Nat → Vec) (V : Vec → Prop) (M : Nat) (bs : List Nat) : Prop where
  len : bs.length = M
  ne : dD A bs ≠ 0
  cr : ∀ x, V x → ∀ j, dD A bs * x j = sm (fun k => dT A bs k x * A (bs.getD k 0) j) M
theorem Bas.vec{V:Vec→Prop}(h:Bas A V M bs){x:Vec}(hx:V x):(fun j=>dD A bs*x j)=comb (fun k=>dT A bs k x) (fun k=>A (bs.getD k 0)) M:=funext fun j=>h.cr x hx j
theorem Bas.two{V:Vec→Prop}(h:Bas A V M bs){l:List Vec}{i:Nat}(hi:i<l.length){x:Vec}(hx:V x):dD A bs*dt (l.set i x)=sm (fun k=>dT A bs k x*dt (l.set i (A (bs.getD k 0)))) M:=by
  rw [←dt_set_smul hi,h.vec hx,Yw hi]
theorem getD_set'{bs:List Nat}{r s i:Nat}(hr:r<bs.length):(bs.set r s).getD i 0=if r=i then s else bs.getD i 0:=by
  simp only [List.getD_eq_getElem?_getD,List.getElem?_set];by_cases hp:r=i
  · subst hp;simp [hr]
  · simp [hp]
theorem piv_D(r s:Nat):dD A (bs.set r s)=dT A bs r (A s):=by unfold dD dT;rw [cols_set]
theorem piv_r(r s:Nat)(x:Vec):dT A (bs.set r s) r x=dT A bs r x:=by unfold dT;rw [cols_set,List.set_set]
theorem Bas.piv_i{V:Vec→Prop}(h:Bas A V M bs){r s i:Nat}(hr:r<M)(hi:i<M)(hir:i≠r){x:Vec}(hx:V x):
    dD A bs*dT A (bs.set r s) i x=dT A bs r (A s)*dT A bs i x - dT A bs r x*dT A bs i (A s):=by
  have hl:=h.len
  have hcl:(cols A bs).length=M:=by rw [Zu];exact hl
  have e:dT A (bs.set r s) i x=dt (((cols A bs).set r (A s)).set i x):=by unfold dT;rw [cols_set]
  rw [e,h.two (by rw [List.length_set];omega) hx];rw [sm_two hi hr hir]
  · have e1:dt (((cols A bs).set r (A s)).set i (A (bs.getD i 0)))=dT A bs r (A s):=by
      rw [List.set_comm _ _ (Ne.symm hir),set_same (cols_at (by omega))];rfl
    have e2:dt (((cols A bs).set r (A s)).set i (A (bs.getD r 0)))= - dT A bs i (A s):=by
      rw [dt_set_swap (by omega) (by omega) (Ne.symm hir),set_same (cols_at (by omega))];rfl
    rw [e1,e2];grind
  · intro k hk h1 h2
    have e1:((cols A bs).set r (A s)).set i (A (bs.getD k 0))=(((cols A bs).set r (A s)).set k (A (bs.getD k 0))).set i (A (bs.getD k 0)):=by
      rw [List.set_comm (i:=r) (j:=k) _ _ (Ne.symm h2),set_same (cols_at (by omega))]
    rw [e1,dt_set_eq (by rw [List.length_set];omega) (by rw [List.length_set];omega) h1,Int.mul_zero]
theorem piv_l{r s i:Nat}(hr:r<bs.length)(hi:i<bs.length)(hir:i≠r):dT A (bs.set r s) i (A (bs.getD r 0))= - dT A bs i (A s):=by
  unfold dT;rw [cols_set,dt_set_swap (by rw [Zu];omega) (by rw [Zu];omega) (Ne.symm hir),set_same (cols_at hr)]
theorem sm_split{f:Nat→Int}{r:Nat}:∀{n:Nat},r<n→sm f n=sm (fun k=>if k=r then 0 else f k) n+f r
  |0,h=>by omega
  |n+1,h=>by
    simp only [sm]
    by_cases e:r=n
    · subst e
      rw [if_pos rfl,Xa (f:=f) (g:=fun k=>if k=r then 0 else f k) fun k hk=>by rw [if_neg (by omega)]];omega
    · rw [if_neg (Ne.symm e),sm_split (by omega:r<n)];omega
theorem Bas.piv{V:Vec→Prop}(h:Bas A V M bs){r s:Nat}(hr:r<M)(hs:V (A s))(hp:dT A bs r (A s)≠0):Bas A V M (bs.set r s):=by
  have hl:=h.len;refine ⟨by rw [List.length_set];exact hl,by rw [piv_D];exact hp,fun x hx j=> ?_⟩;have hne:=h.ne
  refine Int.eq_of_mul_eq_mul_left hne ?_
  rw [piv_D,←Yz,sm_split hr]
  have e1:sm (fun k=>if k=r then 0 else dD A bs*(dT A (bs.set r s) k x*A ((bs.set r s).getD k 0) j)) M=sm (fun k=>if k=r then 0 else (dT A bs r (A s)*dT A bs k x - dT A bs r x*dT A bs k (A s))*A (bs.getD k 0) j) M:=Xa fun k hk=>by
    by_cases hkr:k=r
    · rw [if_pos hkr,if_pos hkr]
    · rw [if_neg hkr,if_neg hkr,getD_set' (by omega),if_neg (Ne.symm hkr),←h.piv_i hr hk hkr hx];grind
  have e2:=sm_split (f:=fun k=>(dT A bs r (A s)*dT A bs k x - dT A bs r x*dT A bs k (A s))*A (bs.getD k 0) j) hr
  have e3:sm (fun k=>(dT A bs r (A s)*dT A bs k x - dT A bs r x*dT A bs k (A s))*A (bs.getD k 0) j) M=dT A bs r (A s)*(dD A bs*x j) - dT A bs r x*(dD A bs*A s j):=by
    rw [h.cr x hx j,h.cr (A s) hs j,←Yz,←Yz]
    have:∀f g:Nat→Int,sm f M - sm g M=sm (fun k=>f k+(-1)*g k) M:=fun f g=>by rw [sm_add,Yz];omega
    rw [this]
    exact Xa fun k hk=>by grind
  rw [e3] at e2;rw [e1,getD_set' (by omega),if_pos J,piv_r]
  have e4:sm (fun k=>if k=r then 0 else (dT A bs r (A s)*dT A bs k x - dT A bs r x*dT A bs k (A s))*A (bs.getD k 0) j) M=dT A bs r (A s)*(dD A bs*x j) - dT A bs r x*(dD A bs*A s j):=by
    have:(dT A bs r (A s)*dT A bs r x - dT A bs r x*dT A bs r (A s))*A (bs.getD r 0) j=0:=by grind
    omega
  rw [e4];grind
theorem dT_unit{bs:List Nat}(hl:bs.length=M)(hu:∀i,i<M→A (bs.getD i 0)=unit i){x:Vec}(hx:∀j,M≤j→x j=0){i:Nat}(hi:i<M):dT A bs i x=x i:=by
  have hD:dD A bs=1:=by
    unfold dD;rw [←dt_unit M]
    congr 1
    apply List.ext_getElem?
    intro k;by_cases hk:k<M
    · rw [cols_at (by omega),hu k hk];simp [hk]
    · rw [List.getElem?_eq_none (by rw [Zu];omega),List.getElem?_eq_none (by simp;omega)]
  have e:x=comb x unit M:=by
    funext j
    unfold comb;by_cases hj:j<M
    · rw [Yj hj fun k _ hk=>by simp [unit,Ne.symm hk]];simp [unit]
    · rw [hx j (by omega),ZV fun k hk=>by rw [show unit k j=0 from if_neg (by omega),Int.mul_zero]]
  have e2:dT A bs i x=sm (fun k=>x k*dT A bs i (unit k)) M:=by
    conv=>lhs;rw [e]
    exact Yw (by rw [Zu];omega) x unit M
  rw [e2,Yj hi fun k hk hki=>by rw [←hu k hk,dT_other (by omega) (by omega) hki,Int.mul_zero],←hu i hi,dT_own (by omega),hD,Int.mul_one]
theorem Bas.start{bs:List Nat}{V:Vec→Prop}(hl:bs.length=M)(hu:∀i,i<M→A (bs.getD i 0)=unit i)(hV:∀x,V x→∀j,M≤j→x j=0):Bas A V M bs∧dD A bs=1:=by
  have hD:dD A bs=1:=by
    unfold dD;rw [←dt_unit M]
    congr 1
    apply List.ext_getElem?
    intro k;by_cases hk:k<M
    · rw [cols_at (by omega),hu k hk];simp [hk]
    · rw [List.getElem?_eq_none (by rw [Zu];omega),List.getElem?_eq_none (by simp;omega)]
  refine ⟨⟨hl,by rw [hD];decide,fun x hx j=> ?_⟩,hD⟩;rw [hD,Int.one_mul];by_cases hj:j<M
  · rw [Yj hj fun k hk hkj=>by rw [hu k hk];simp [unit,Ne.symm hkj],dT_unit hl hu (hV x hx) hj,hu j hj];simp [unit]
  · rw [hV x hx j (by omega),ZV fun k hk=>by rw [hu k hk,show unit k j=0 from if_neg (by omega),Int.mul_zero]]
end Go.Det
namespace Go.Det
section
variable (A : Nat → Vec)
def tt (bs : List Nat) (i : Nat) (x : Vec) : Int := (dD A bs).sign * dT A bs i x
def den (bs : List Nat) : Int := (dD A bs).sign * dD A bs
end
variable {A : Nat → Vec} {V : Vec → Prop} {M : Nat} {bs : List Nat}
theorem sgn_sq{d:Int}(h:d≠0):d.sign*d.sign=1:=by
  rcases Int.lt_or_gt_of_ne h with h|h
  · rw [Int.sign_eq_neg_one_of_neg h];rfl
  · rw [Int.sign_eq_one_of_pos h];rfl
theorem den_pos(h:dD A bs≠0):0<den A bs:=by
  unfold den;rcases Int.lt_or_gt_of_ne h with h|h
  · rw [Int.sign_eq_neg_one_of_neg h];omega
  · rw [Int.sign_eq_one_of_pos h];omega
theorem sign_of_mul{d p:Int}(h:d≠0)(hp:0<d.sign*p):p.sign=d.sign:=by
  rcases Int.lt_or_gt_of_ne h with h|h
  · rw [Int.sign_eq_neg_one_of_neg h] at hp ⊢;exact Int.sign_eq_neg_one_of_neg (by omega)
  · rw [Int.sign_eq_one_of_pos h] at hp ⊢;exact Int.sign_eq_one_of_pos (by omega)
theorem tt_own(hl:bs.length=M){i:Nat}(h:i<M):tt A bs i (A (bs.getD i 0))=den A bs:=by unfold tt den;rw [dT_own (by omega)]
theorem Yd(hl:bs.length=M){i k:Nat}(hi:i<M)(hk:k<M)(h:k≠i):tt A bs i (A (bs.getD k 0))=0:=by unfold tt;rw [dT_other (by omega) (by omega) h,Int.mul_zero]
theorem Bas.pos{r s:Nat}(h:Bas A V M bs)(hp:0<tt A bs r (A s)):dT A bs r (A s)≠0:=fun e=>by unfold tt at hp;rw [e] at hp;simp at hp
theorem Bas.sgn'{r s:Nat}(h:Bas A V M bs)(hp:0<tt A bs r (A s)):(dD A (bs.set r s)).sign=(dD A bs).sign:=by
  rw [piv_D];exact sign_of_mul h.ne hp
theorem Bas.den'{r s:Nat}(h:Bas A V M bs)(hp:0<tt A bs r (A s)):den A (bs.set r s)=tt A bs r (A s):=by
  unfold den;rw [h.sgn' hp,piv_D];rfl
theorem Bas.tt_r{r s:Nat}(h:Bas A V M bs)(hp:0<tt A bs r (A s))(x:Vec):tt A (bs.set r s) r x=tt A bs r x:=by
  unfold tt;rw [h.sgn' hp,piv_r]
theorem Bas.tt_i{r s i:Nat}(h:Bas A V M bs)(hr:r<M)(hi:i<M)(hir:i≠r)(hp:0<tt A bs r (A s)){x:Vec}(hx:V x):
    den A bs*tt A (bs.set r s) i x=tt A bs r (A s)*tt A bs i x - tt A bs r x*tt A bs i (A s):=by
  have h1:=h.piv_i (s:=s) hr hi hir hx;have h2:=sgn_sq h.ne;unfold tt den;rw [h.sgn' hp];generalize (dD A bs).sign=σ at*
  grind
theorem Bas.tt_two{bs2:List Nat}(h:Bas A V M bs)(h2:Bas A V M bs2){g:Nat}(hg:g<M){x:Vec}(hx:V x):den A bs*tt A bs2 g x=sm (fun k=>tt A bs k x*tt A bs2 g (A (bs.getD k 0))) M:=by
  have h1:=h.two (l:=cols A bs2) (i:=g) (by rw [Zu,h2.len];exact hg) hx;unfold tt den
  have e:sm (fun k=>(dD A bs).sign*dT A bs k x*((dD A bs2).sign*dT A bs2 g (A (bs.getD k 0)))) M=(dD A bs).sign*(dD A bs2).sign*sm (fun k=>dT A bs k x*dt ((cols A bs2).set g (A (bs.getD k 0)))) M:=by
    rw [←Yz]
    exact Xa fun k _=>by unfold dT;grind
  rw [e,←h1];unfold dT;grind
structure Step (A : Nat → Vec) (m g : Nat) (q : Vec) (al : Nat → Prop) (bs : List Nat) (r s : Nat) : Prop where
  row : r < m
  alw : al s
  ent : tt A bs g (A s) < 0
  least : ∀ v, v < s → al v → 0 ≤ tt A bs g (A v)
  lev : 0 < tt A bs r (A s)
  ratio : ∀ i, i < m → 0 < tt A bs i (A s) → tt A bs r q * tt A bs i (A s) ≤ tt A bs i q * tt A bs r (A s)
  tie : ∀ i, i < m → 0 < tt A bs i (A s) → tt A bs r q * tt A bs i (A s) = tt A bs i q * tt A bs r (A s) → bs.getD r 0 ≤ bs.getD i 0
theorem Step.bas{m g r s:Nat}{q:Vec}{al:Nat→Prop}(h:Step A m g q al bs r s)(hB:Bas A V M bs)(hm:m≤M)(hA:∀v,V (A v)):Bas A V M (bs.set r s):=hB.piv (by have:=h.row;omega) (hA s) (hB.pos h.lev)
theorem Step.feas{m g r s:Nat}{q:Vec}{al:Nat→Prop}(h:Step A m g q al bs r s)(hB:Bas A V M bs)(hm:m≤M)(hq:V q)(hf:∀i,i<m→0≤tt A bs i q):∀i,i<m→0≤tt A (bs.set r s) i q:=fun i hi=>by
  have hr:=h.row
  by_cases hir:i=r
  · subst hir;rw [hB.tt_r h.lev];exact hf i hi
  · have h1:=hB.tt_i (by omega) (by omega) hir h.lev hq
    have hd:=den_pos hB.ne
    have h3:=hf i hi
    have h4:=hf r hr
    have h5:=h.lev
    have key:0≤den A bs*tt A (bs.set r s) i q:=by
      rw [h1];by_cases h2:0<tt A bs i (A s)
      · have:=h.ratio i hi h2;have e:tt A bs r (A s)*tt A bs i q=tt A bs i q*tt A bs r (A s):=Int.mul_comm _ _;omega
      · have a1:0≤tt A bs r (A s)*tt A bs i q:=Int.mul_nonneg (by omega) h3;have a2:tt A bs r q*tt A bs i (A s)≤0:=Int.mul_nonpos_of_nonneg_of_nonpos h4 (by omega);omega
    rcases (show tt A (bs.set r s) i q<0∨0≤tt A (bs.set r s) i q by omega) with h6|h6
    · have:=Int.mul_neg_of_pos_of_neg hd h6;omega
    · exact h6
theorem divInt_le{a b c d:Int}(hb:0<b)(hd:0<d):Rat.divInt a b≤Rat.divInt c d↔a*d≤c*b:=by
  rw [Rat.le_iff_sub_nonneg,Rat.divInt_sub_divInt _ _ (by omega) (by omega),Rat.divInt_nonneg_iff_of_pos_right (Int.mul_pos hd hb)];omega
def ob (A : Nat → Vec) (g : Nat) (q : Vec) (bs : List Nat) : Rat := Rat.divInt (tt A bs g q) (den A bs)
theorem Step.obj{m g r s:Nat}{q:Vec}{al:Nat→Prop}(h:Step A m g q al bs r s)(hB:Bas A V M bs)(hm:m≤g)(hg:g<M)(hq:V q)(hA:∀v,V (A v))(hf:∀i,i<m→0≤tt A bs i q):
    ob A g q bs≤ob A g q (bs.set r s)∧(ob A g q (bs.set r s)=ob A g q bs→tt A bs r q=0):=by
  have hr:=h.row;have hd:=den_pos hB.ne;have hd' :=den_pos (h.bas hB (by omega) hA).ne;have h1:=hB.tt_i (i:=g) (by omega) hg (by omega) h.lev hq;have h2:=hB.den' h.lev;have h3:=h.ent;have h4:=hf r hr;unfold ob;rw [h2] at hd' ⊢;constructor
  · rw [divInt_le hd hd'];have a:tt A bs r q*tt A bs g (A s)≤0:=Int.mul_nonpos_of_nonneg_of_nonpos h4 (by omega);have e1:tt A (bs.set r s) g q*den A bs=den A bs*tt A (bs.set r s) g q:=Int.mul_comm _ _;have e2:tt A bs g q*tt A bs r (A s)=tt A bs r (A s)*tt A bs g q:=Int.mul_comm _ _;omega
  · intro he;have he' :=(Rat.divInt_eq_divInt_iff (by omega) (by omega)).1 he;have e1:tt A (bs.set r s) g q*den A bs=den A bs*tt A (bs.set r s) g q:=Int.mul_comm _ _;have e2:tt A bs g q*tt A bs r (A s)=tt A bs r (A s)*tt A bs g q:=Int.mul_comm _ _
    have e3:tt A bs r q*tt A bs g (A s)=0:=by omega
    rcases Int.mul_eq_zero.1 e3 with h5|h5
    · exact h5
    · omega
theorem nat_hole:∀(n:Nat) (f:Nat→Nat),(∀k,f k<n)→∃i j,i<j∧f i=f j
  |0,f,h=>absurd (h 0) (by omega)
  |n+1,f,h=>by
    by_cases h1:∃a,f a=n
    · obtain ⟨a,ha⟩:=h1
      by_cases h2:∃b,a<b∧f b=n
      · obtain ⟨b,hb,hb2⟩:=h2
        exact ⟨a,b,hb,by rw [ha,hb2]⟩
      · obtain ⟨i,j,hij,he⟩:=nat_hole n (fun k=>f (a+1+k)) (fun k=>by
          have:=h (a+1+k)
          have:f (a+1+k)≠n:=fun e=>h2 ⟨a+1+k,by omega,e⟩
          omega)
        exact ⟨a+1+i,a+1+j,by omega,he⟩
    · exact nat_hole n f (fun k=>by
        have:=h k
        have:f k≠n:=fun e=>h1 ⟨k,e⟩
        omega)
def enc (N : Nat) : List Nat → Nat
  | [] => 0
  | d :: l => d + N * enc N l
theorem enc_lt{N:Nat}:∀{l:List Nat},(∀d∈l,d<N)→enc N l<N ^ l.length
  | [],_=>by simp [enc]
  |d::l,h=>by
    have h1:=h d (List.mem_cons_self ..)
    have h2:=enc_lt (l:=l) fun d hd=>h d (List.mem_cons_of_mem _ hd)
    simp only [enc,List.length_cons,Nat.pow_succ]
    have h3:N*(enc N l+1)≤N*N ^ l.length:=Nat.mul_le_mul_left _ h2
    rw [Nat.mul_add,Nat.mul_one] at h3
    rw [Nat.mul_comm (N ^ l.length) N]
    omega
theorem enc_inj{N:Nat}:∀{l k:List Nat},(∀d∈l,d<N)→(∀d∈k,d<N)→l.length=k.length→enc N l=enc N k→l=k
  | [],[],_,_,_,_=>rfl
  |d::l,e::k,h1,h2,hl,he=>by
    have a1:=h1 d (List.mem_cons_self ..)
    have a2:=h2 e (List.mem_cons_self ..)
    simp only [enc] at he
    have m1:(d+N*enc N l)%N=d:=by rw [Nat.add_mul_mod_self_left,Nat.mod_eq_of_lt a1]
    have m2:(e+N*enc N k)%N=e:=by rw [Nat.add_mul_mod_self_left,Nat.mod_eq_of_lt a2]
    have hde:d=e:=by rw [←m1,←m2,he]
    subst hde
    have h3:N*enc N l=N*enc N k:=by omega
    rw [enc_inj (fun d hd=>h1 d (List.mem_cons_of_mem _ hd)) (fun d hd=>h2 d (List.mem_cons_of_mem _ hd)) (by simpa using hl) (Nat.eq_of_mul_eq_mul_left (by omega) h3)]
  | [],_::_,_,_,hl,_=>by simp at hl
  |_::_,[],_,_,hl,_=>by simp at hl
theorem list_hole{N M:Nat}(f:Nat→List Nat)(hl:∀k,(f k).length=M)(hN:∀k,∀d∈f k,d<N):∃i j,i<j∧f i=f j:=by
  obtain ⟨i,j,hij,he⟩:=nat_hole (N ^ M) (fun k=>enc N (f k)) (fun k=>by have:=enc_lt (hN k);rwa [hl k] at this);exact ⟨i,j,hij,enc_inj (hN i) (hN j) (by rw [hl,hl]) he⟩
theorem exists_max(f:Nat→Nat)(a:Nat):∀n,0<n→∃e,a≤e∧e<a+n∧∀k,a≤k→k<a+n→f k≤f e
  |0,h=>absurd h (by omega)
  |1,_=>⟨a,by omega,by omega,fun k h1 h2=>by
    have:k=a:=by omega
    rw [this];exact Nat.le_refl _⟩
  |n+2,_=>by
    obtain ⟨e,h1,h2,h3⟩:=exists_max f a (n+1) (by omega)
    by_cases h4:f e≤f (a+n+1)
    · refine ⟨a+n+1,by omega,by omega,fun k hk1 hk2=> ?_⟩
      rcases Nat.lt_or_ge k (a+(n+1)) with h5|h5
      · exact Nat.le_trans (h3 k hk1 h5) h4
      · have:k=a+n+1:=by omega
        rw [this];exact Nat.le_refl _
    · refine ⟨e,h1,by omega,fun k hk1 hk2=> ?_⟩
      rcases Nat.lt_or_ge k (a+(n+1)) with h5|h5
      · exact h3 k hk1 h5
      · have:k=a+n+1:=by omega
        rw [this];omega
structure Run (A : Nat → Vec) (V : Vec → Prop) (M m g : Nat) (q : Vec) (al : Nat → Prop) (N : Nat) (B : Nat → List Nat) (r s : Nat → Nat) : Prop where
  bas : Bas A V M (B 0)
  feas : ∀ i, i < m → 0 ≤ tt A (B 0) i q
  hq : V q
  hA : ∀ v, V (A v)
  mg : m ≤ g
  gM : g < M
  step : ∀ k, Step A m g q al (B k) (r k) (s k)
  next : ∀ k, B (k + 1) = (B k).set (r k) (s k)
  few : ∀ d ∈ B 0, d < N
  alN : ∀ v, al v → v < N
section
variable {m g : Nat} {q : Vec} {al : Nat → Prop} {N : Nat} {B : Nat → List Nat} {r s : Nat → Nat}
theorem Run.basA(R:Run A V M m g q al N B r s):∀k,Bas A V M (B k)
  |0=>R.bas
  |k+1=>by rw [R.next];exact (R.step k).bas (R.basA k) (by have:=R.mg;have:=R.gM;omega) R.hA
theorem Run.feasA(R:Run A V M m g q al N B r s):∀k,∀i,i<m→0≤tt A (B k) i q
  |0=>R.feas
  |k+1=>by rw [R.next];exact (R.step k).feas (R.basA k) (by have:=R.mg;have:=R.gM;omega) R.hq (R.feasA k)
theorem Run.fewA(R:Run A V M m g q al N B r s):∀k,∀d∈B k,d<N
  |0=>R.few
  |k+1=>fun d hd=>by
    rw [R.next] at hd
    rcases List.mem_or_eq_of_mem_set hd with h|h
    · exact R.fewA k d h
    · rw [h];exact R.alN _ (R.step k).alw
theorem Run.mono(R:Run A V M m g q al N B r s)(a:Nat):∀n,ob A g q (B a)≤ob A g q (B (a+n))
  |0=>Rat.le_refl
  |n+1=>Rat.le_trans (R.mono a n) (by
    have:=((R.step (a+n)).obj (R.basA _) R.mg R.gM R.hq R.hA (R.feasA _)).1
    rw [←R.next] at this;exact this)
def In (M : Nat) (B : Nat → List Nat) (k v : Nat) : Prop := ∃ i, i < M ∧ (B k).getD i 0 = v
theorem Run.in_next(R:Run A V M m g q al N B r s){k v:Nat}(h:In M B (k+1) v):In M B k v∨v=s k:=by
  obtain ⟨i,hi,he⟩:=h;have hr:=(R.step k).row;have hl:=(R.basA k).len;rw [R.next,getD_set' (by have:=R.mg;have:=R.gM;omega)] at he;split at he
  · exact .inr he.symm
  · exact .inl ⟨i,hi,he⟩
theorem Run.in_stay(R:Run A V M m g q al N B r s){k v:Nat}(h:In M B k v)(hn:(B k).getD (r k) 0≠v):In M B (k+1) v:=by
  obtain ⟨i,hi,he⟩:=h;have hr:=(R.step k).row;have hl:=(R.basA k).len;refine ⟨i,hi,?_⟩;rw [R.next,getD_set' (by have:=R.mg;have:=R.gM;omega),if_neg (fun e=>by rw [e] at hn;exact hn he)];exact he
theorem Run.not_in(R:Run A V M m g q al N B r s)(k:Nat):¬In M B k (s k):=fun ⟨i,hi,he⟩=>by
  have h1:=(R.step k).ent
  have hB:=R.basA k
  rw [←he] at h1
  by_cases hig:i=g
  · subst hig;rw [tt_own hB.len hi] at h1;have:=den_pos hB.ne;omega
  · rw [Yd hB.len R.gM hi hig] at h1;omega
theorem Run.new_in(R:Run A V M m g q al N B r s)(k:Nat):In M B (k+1) (s k):=by
  have hr:=(R.step k).row;have:=R.mg;have:=R.gM;have hl:=(R.basA k).len;exact ⟨r k,by omega,by rw [R.next,getD_set' (by omega),if_pos J]⟩
theorem Run.down(R:Run A V M m g q al N B r s){k0 k1 v:Nat}(hn:∀k,k0≤k→k<k1→s k≠v)(a:Nat)(ha:k0≤a):∀n,a+n≤k1→In M B (a+n) v→In M B a v
  |0,_,h=>h
  |n+1,hle,h=>by
    rcases R.in_next h with h1|h1
    · exact R.down hn a ha n (by omega) h1
    · exact absurd h1.symm (hn (a+n) (by omega) (by omega))
theorem Run.up(R:Run A V M m g q al N B r s){k0 k1 v:Nat}(hn:∀k,k0≤k→k<k1→(B k).getD (r k) 0≠v)(a:Nat)(ha:k0≤a):∀n,a+n≤k1→In M B a v→In M B (a+n) v
  |0,_,h=>h
  |n+1,hle,h=>R.in_stay (R.up hn a ha n (by omega) h) (hn (a+n) (by omega) (by omega))
theorem Run.goal(R:Run A V M m g q al N B r s){j:Nat}(hj:m≤j):∀k,(B k).getD j 0=(B 0).getD j 0
  |0=>rfl
  |k+1=>by
    have hr:=(R.step k).row
    have:=R.mg
    have:=R.gM
    have hl:=(R.basA k).len
    rw [R.next,getD_set' (by omega),if_neg (by omega)]
    exact R.goal hj k
def Zr (A : Nat → Vec) (m : Nat) (q : Vec) (B : Nat → List Nat) (k v : Nat) : Prop := ∀ i, i < m → (B k).getD i 0 = v → tt A (B k) i q = 0
theorem Run.z_fwd(R:Run A V M m g q al N B r s){k v:Nat}(hd:tt A (B k) (r k) q=0)(h:Zr A m q B k v):Zr A m q B (k+1) v:=fun i hi he=>by
  have hr:=(R.step k).row
  have:=R.mg
  have:=R.gM
  have hB:=R.basA k
  have hl:=hB.len
  rw [R.next] at he ⊢
  rw [getD_set' (by omega)] at he
  by_cases hir:r k=i
  · subst hir;rw [hB.tt_r (R.step k).lev];exact hd
  · rw [if_neg hir] at he
    have h1:=hB.tt_i (by omega) (by omega) (Ne.symm hir) (R.step k).lev R.hq
    rw [h i hi he,hd,Int.mul_zero,Int.zero_mul,Int.sub_zero] at h1
    have:=den_pos hB.ne
    rcases Int.mul_eq_zero.1 h1 with h2|h2
    · omega
    · exact h2
theorem Run.z_bwd(R:Run A V M m g q al N B r s){k v:Nat}(hd:tt A (B k) (r k) q=0)(h:Zr A m q B (k+1) v):Zr A m q B k v:=fun i hi he=>by
  have hr:=(R.step k).row
  have:=R.mg
  have:=R.gM
  have hB:=R.basA k
  have hl:=hB.len
  by_cases hir:r k=i
  · subst hir;exact hd
  · have h2:=h i hi (by rw [R.next,getD_set' (by omega),if_neg hir];exact he)
    rw [R.next] at h2
    have h1:=hB.tt_i (by omega) (by omega) (Ne.symm hir) (R.step k).lev R.hq
    rw [h2,hd,Int.mul_zero,Int.zero_mul,Int.sub_zero] at h1
    have:=(R.step k).lev
    rcases Int.mul_eq_zero.1 h1.symm with h3|h3
    · omega
    · exact h3
theorem Run.z_all(R:Run A V M m g q al N B r s){k0 k1 e:Nat}(hd:∀k,k0≤k→k<k1→tt A (B k) (r k) q=0)(h1:k0≤e)(h2:e<k1):∀k,k0≤k→k≤k1→Zr A m q B k (s e):=by
  have h0:Zr A m q B e (s e):=fun i hi he=>absurd ⟨i,by have:=R.mg;have:=R.gM;omega,he⟩ (R.not_in e)
  have fwd:∀n,e+n≤k1→Zr A m q B (e+n) (s e):=fun n=>by
    induction n with
    |zero=>intro _;exact h0
    |succ n ih=>intro hn;exact R.z_fwd (hd (e+n) (by omega) (by omega)) (ih (by omega))
  have bwd:∀n,n≤e→k0≤e - n→Zr A m q B (e - n) (s e):=fun n=>by
    induction n with
    |zero=>intro _ _;exact h0
    |succ n ih=>
      intro hn hk;have:=ih (by omega) (by omega)
      have e1:e - n=(e - (n+1))+1:=by omega
      rw [e1] at this;exact R.z_bwd (hd _ hk (by omega)) this
  intro k hk1 hk2;rcases Nat.lt_or_ge k e with h3|h3
  · have:=bwd (e - k) (by omega) (by omega)
    rwa [show e - (e - k)=k by omega] at this
  · have:=fwd (k - e) (by omega)
    rwa [show e+(k - e)=k by omega] at this
theorem Run.no(R:Run A V M m g q al N B r s):False:=by
  have hmg:=R.mg;have hgM:=R.gM;obtain ⟨k0,k1,hk,hB⟩:=list_hole B (fun k=>(R.basA k).len) R.fewA
  have ob0:∀k,k0≤k→k≤k1→ob A g q (B k)=ob A g q (B k0):=fun k h1 h2=>by
    have a1:=R.mono k0 (k - k0);have a2:=R.mono k (k1 - k);rw [show k0+(k - k0)=k by omega] at a1;rw [show k+(k1 - k)=k1 by omega,←hB] at a2;exact Rat.le_antisymm a2 a1
  have hd:∀k,k0≤k→k<k1→tt A (B k) (r k) q=0:=fun k h1 h2=>by
    refine ((R.step k).obj (R.basA _) R.mg R.gM R.hq R.hA (R.feasA _)).2 ?_
    rw [←R.next,ob0 (k+1) (by omega) (by omega),ob0 k (by omega) (by omega)]
  have fick:∀a b v,k0≤a→a≤k1→k0≤b→b≤k1→In M B a v→¬In M B b v→∃k,k0≤k∧k<k1∧s k=v:=fun a b v ha1 ha2 hb1 hb2 hi hn=>by
    refine Classical.byContradiction fun hno=> ?_
    have hne:∀k,k0≤k→k<k1→s k≠v:=fun k h1 h2 h3=>hno ⟨k,h1,h2,h3⟩
    have i0:=R.down hne k0 (Nat.le_refl _) (a - k0) (by omega) (by rw [show k0+(a - k0)=a by omega];exact hi)
    have i1:In M B k1 v:=by obtain ⟨i,h1,h2⟩:=i0;exact ⟨i,h1,by rw [←hB];exact h2⟩
    exact hn (R.down hne b hb1 (k1 - b) (by omega) (by rw [show b+(k1 - b)=k1 by omega];exact i1))
  obtain ⟨e,he1,he2,hmax⟩:=exists_max s k0 (k1 - k0) (by omega);rw [show k0+(k1 - k0)=k1 by omega] at he2 hmax
  have hleave:∃d,k0≤d∧d<k1∧(B d).getD (r d) 0=s e:=by
    refine Classical.byContradiction fun hno=> ?_
    have hne:∀k,k0≤k→k<k1→(B k).getD (r k) 0≠s e:=fun k h1 h2 h3=>hno ⟨k,h1,h2,h3⟩
    have i1:=R.up hne (e+1) (by omega) (k1 - (e+1)) (by omega) (R.new_in e);rw [show e+1+(k1 - (e+1))=k1 by omega] at i1
    have i0:In M B k0 (s e):=by obtain ⟨i,h1,h2⟩:=i1;exact ⟨i,h1,by rw [hB];exact h2⟩
    have i2:=R.up hne k0 (Nat.le_refl _) (e - k0) (by omega) i0;rw [show k0+(e - k0)=e by omega] at i2;exact R.not_in e i2
  obtain ⟨d,hd1,hd2,hdl⟩:=hleave;have Sd:=R.step d;have Se:=R.step e;have Bd:=R.basA d;have Be:=R.basA e;have hrd:=Sd.row
  have hsne:s d≠s e:=fun h=>R.not_in d ⟨r d,by omega,by rw [hdl,h]⟩
  have hslt:s d<s e:=by have:=hmax d hd1 hd2;omega
  have two:=Bd.tt_two Be hgM (R.hA (s d));have lhs:=Se.least (s d) hslt Sd.alw;have dd:=den_pos Bd.ne;have de:=den_pos Be.ne;rw [sm_split hgM] at two
  have hg0:tt A (B e) g (A ((B d).getD g 0))=den A (B e):=by
    rw [R.goal hmg d,←R.goal hmg e];exact tt_own Be.len hgM
  rw [hg0] at two;have t1:=Int.mul_neg_of_neg_of_pos Sd.ent de;have t2:=Int.mul_nonneg (Int.le_of_lt dd) lhs;obtain ⟨k,hkM,hkp⟩:=sm_pos (f:=fun k=>if k=g then 0 else tt A (B d) k (A (s d))*tt A (B e) g (A ((B d).getD k 0))) (n:=M) (by omega);by_cases hkg:k=g
  · rw [if_pos hkg] at hkp;omega
  rw [if_neg hkg] at hkp
  have hfac:tt A (B e) g (A ((B d).getD k 0))≠0:=fun h=>by rw [h,Int.mul_zero] at hkp;omega
  have hnin:¬In M B e ((B d).getD k 0):=fun ⟨i,hi,hie⟩=>by
    by_cases hig:i=g
    · subst hig;have h1:=R.goal hmg e;rw [R.goal hmg e,←R.goal hmg d] at hie;exact Bd.ne (dup_zero (i:=i) (k:=k) (by rw [Bd.len];omega) (by rw [Bd.len];omega) hkg hie)
    · rw [←hie] at hfac;exact hfac (Yd Be.len hgM hi hig)
  have hin:In M B d ((B d).getD k 0):=⟨k,hkM,rfl⟩
  have hkm:k<m:=by
    rcases Nat.lt_or_ge k m with h|h
    · exact h
    · exact absurd ⟨k,hkM,by rw [R.goal h e,←R.goal h d]⟩ hnin
  obtain ⟨f,hf1,hf2,hf3⟩:=fick d e _ hd1 (by omega) he1 (by omega) hin hnin;have hfle:=hmax f hf1 hf2;rw [hf3] at hfle;have hZ:=R.z_all hd hf1 hf2 d hd1 (by omega) k hkm hf3.symm
  have halw:al ((B d).getD k 0):=by rw [←hf3];exact (R.step f).alw
  by_cases hkt:(B d).getD k 0=s e
  · have hkr:k=r d:=Classical.byContradiction fun h=>Bd.ne (dup_zero (i:=r d) (k:=k) (by rw [Bd.len];omega) (by rw [Bd.len];omega) h (by rw [hdl,hkt]))
    rw [hkt,hkr] at hkp;have:=Int.mul_neg_of_pos_of_neg Sd.lev Se.ent;omega
  · have h1:=Se.least _ (by omega) halw
    have h2:0<tt A (B e) g (A ((B d).getD k 0)):=by omega
    have h3:0<tt A (B d) k (A (s d)):=by
      rcases (show 0<tt A (B d) k (A (s d))∨tt A (B d) k (A (s d))≤0 by omega) with h|h
      · exact h
      · have:=Int.mul_nonpos_of_nonpos_of_nonneg h h1;omega
    have h4:=Sd.tie k hkm h3 (by rw [hd d hd1 hd2,hZ,Int.zero_mul,Int.zero_mul]);rw [hdl] at h4;omega
end
end Go.Det
namespace Go.Det
variable {A : Nat → Vec} {V : Vec → Prop} {M : Nat} {bs : List Nat}
theorem Bas.gen{r s i:Nat}(h:Bas A V M bs)(hr:r<M)(hi:i<M)(hir:i≠r){x:Vec}(hx:V x):
    den A bs*((dD A bs).sign*dT A (bs.set r s) i x)=tt A bs r (A s)*tt A bs i x - tt A bs r x*tt A bs i (A s):=by
  have h1:=h.piv_i (s:=s) hr hi hir hx;have h2:=sgn_sq h.ne;unfold tt den;generalize (dD A bs).sign=σ at*
  grind
theorem sign_neg{d p:Int}(h:d≠0)(hp:d.sign*p<0):p.sign= - d.sign:=by
  rcases Int.lt_or_gt_of_ne h with h|h
  · rw [Int.sign_eq_neg_one_of_neg h] at hp ⊢;exact Int.sign_eq_one_of_pos (by omega)
  · rw [Int.sign_eq_one_of_pos h] at hp ⊢;exact Int.sign_eq_neg_one_of_neg (by omega)
theorem Bas.gsgn{r s:Nat}(h:Bas A V M bs)(hp:tt A bs r (A s)≠0):(dD A (bs.set r s)).sign=(dD A bs).sign∧0<tt A bs r (A s)∨(dD A (bs.set r s)).sign= -(dD A bs).sign∧tt A bs r (A s)<0:=by
  rcases Int.lt_or_gt_of_ne hp with h1|h1
  · exact .inr ⟨by rw [piv_D];exact sign_neg h.ne h1,h1⟩
  · exact .inl ⟨by rw [piv_D];exact sign_of_mul h.ne h1,h1⟩
theorem Bas.gne{r s:Nat}(h:Bas A V M bs)(hp:tt A bs r (A s)≠0):dT A bs r (A s)≠0:=fun e=>by unfold tt at hp;rw [e] at hp;simp at hp
end Go.Det
namespace Go.Proofs.YtojkdfilabmafaaGreat
open Go.Own Go.Limbs Go.Det
structure View (A : Nat → Vec) (V : Vec → Prop) (M m : Nat) (q : Vec) (T : Tv) (bs : List Nat) : Prop where
  bas : Bas A V M bs
  den : T.den = Go.Det.den A bs
  num : ∀ i, i < T.rows.length → ∀ j, j < T.col.length → T.at i j = tt A bs i (A (T.col.getD j 0).toNat)
  rhs : ∀ i, i < T.rows.length → T.at i T.col.length = tt A bs i q
  basl : T.bas.length = m
  basv : ∀ i, i < m → T.bas.getD i 0 = (bs.getD i 0 : Nat)
  colv : ∀ j, 0 ≤ T.col.getD j 0
  row : ∀ i, i < T.rows.length → (T.rows.getD i []).length = T.col.length + 1
  rm : m ≤ T.rows.length
  rM : T.rows.length ≤ M
theorem at_neg{rows:List (List Int)}{i j:Nat}:((rows.map negL).getD i []).getD j 0= -((rows.getD i []).getD j 0):=by
  simp only [List.getD_eq_getElem?_getD,List.getElem?_map]
  cases h:rows[i]? with
  |none=>simp
  |some l=>
    simp only [Option.map_some,Option.getD_some,negL,List.getElem?_map]
    cases h2:l[j]? with
    |none=>simp
    |some x=>simp
theorem pvt_raw{T:Tv}{r s i j:Nat}(hi:i<T.rows.length)(hr:r<T.rows.length)(hrow:(T.rows.getD i []).length=T.col.length+1)(hs:s<T.col.length+1)(hj:j<T.col.length+1):
    (((pvRows T r s T.rows.length).set r ((T.rows.getD r []).set s T.den)).getD i []).getD j 0=
      if i=r then (if j=s then T.den else T.at r j) else if j=s then -(T.at i s) else (T.at i j*T.at r s+ -(T.at r j*T.at i s)).tdiv T.den:=by
  by_cases hir:i=r
  · subst hir;rw [Zz (by rw [Y6];exact hi),if_pos J,if_pos J];rw [Zz (by omega)];by_cases hjs:j=s
    · subst hjs;simp
    · rw [if_neg (Ne.symm hjs),if_neg hjs]
  · rw [Zz (by rw [Y6];exact hr),if_neg (Ne.symm hir),if_neg hir];unfold pvRows;rw [ZW _ _ _ hi,if_pos ⟨hi,hir⟩];unfold pvRow;rw [ZW _ _ _ (by omega)];unfold pvZ;by_cases hjs:j=s
    · rw [if_pos hjs]
    · rw [if_neg hjs]
theorem pvt_at{T:Tv}{r s i j:Nat}(hi:i<T.rows.length)(hr:r<T.rows.length)(hrow:(T.rows.getD i []).length=T.col.length+1)(hs:s<T.col.length+1)(hj:j<T.col.length+1):
    (pvt T r s).at i j=(if T.at r s<0 then -1 else 1)*(if i=r then (if j=s then T.den else T.at r j) else if j=s then -(T.at i s) else (T.at i j*T.at r s+ -(T.at r j*T.at i s)).tdiv T.den):=by
  have h:=pvt_raw hi hr hrow hs hj;unfold Tv.at pvt;by_cases hp:T.at r s<0
  · simp only [if_pos hp];rw [at_neg,h];unfold Tv.at;grind
  · simp only [if_neg hp];rw [h];unfold Tv.at;grind
theorem set_getDI{l:List Int}{i j:Nat}{x:Int}(h:i<l.length):(l.set i x).getD j 0=if i=j then x else l.getD j 0:=Zz h
theorem pvt_rowlen{T:Tv}{r s i:Nat}(hi:i<T.rows.length)(hr:r<T.rows.length):((pvt T r s).rows.getD i []).length=(T.rows.getD i []).length:=by
  have key:(((pvRows T r s T.rows.length).set r ((T.rows.getD r []).set s T.den)).getD i []).length=(T.rows.getD i []).length:=by
    by_cases hir:i=r
    · subst hir;rw [Zz (by rw [Y6];exact hi),if_pos rfl,List.length_set]
    · rw [Zz (by rw [Y6];exact hr),if_neg (Ne.symm hir)];unfold pvRows;rw [ZW _ _ _ hi,if_pos ⟨hi,hir⟩,pvRow_len]
  unfold pvt;by_cases hp:T.at r s<0
  · simp only [if_pos hp];rw [←key];simp only [List.getD_eq_getElem?_getD,List.getElem?_map]
    cases (((pvRows T r s T.rows.length).set r ((T.rows[r]?.getD []).set s T.den))[i]?) with
    |none=>simp
    |some l=>simp [negL]
  · simp only [if_neg hp];exact key
theorem View.pvt{A:Nat→Vec}{V:Vec→Prop}{M m:Nat}{q:Vec}{T:Tv}{bs:List Nat}(h:View A V M m q T bs)(hq:V q)(hA:∀v,V (A v)){r s:Nat}(hr:r<m)(hs:s<T.col.length)(hp:T.at r s≠0):
    View A V M m q (pvt T r s) (bs.set r (T.col.getD s 0).toNat):=by
  have hrl:r<T.rows.length:=by have:=h.rm;omega
  have hrM:r<M:=by have:=h.rM;omega
  have hlen:=h.bas.len;have ep:=h.num r hrl s hs
  have hne:tt A bs r (A (T.col.getD s 0).toNat)≠0:=by rw [←ep];exact hp
  have hB:=h.bas.piv hrM (hA (T.col.getD s 0).toNat) (h.bas.gne hne);have hsg:=h.bas.gsgn hne;have hd:=den_pos h.bas.ne;rw [←ep] at hsg
  have one:∀i,i<T.rows.length→∀x,V x→∀j,j<T.col.length+1→j≠s→T.at i j=tt A bs i x→T.at r j=tt A bs r x→(Go.Proofs.YtojkdfilabmafaaGreat.pvt T r s).at i j=tt A (bs.set r (T.col.getD s 0).toNat) i x:=by
    intro i hi x hx j hj hjs e1 e2;rw [pvt_at hi hrl (h.row i hi) (by omega) hj];by_cases hir:i=r
    · subst hir;rw [if_pos J,if_neg hjs,e2];unfold tt;rw [piv_r];rcases hsg with ⟨h1,h2⟩|⟨h1,h2⟩
      · rw [if_neg (by omega),h1,Int.one_mul]
      · rw [if_pos h2,h1,Int.neg_mul,Int.neg_mul,Int.one_mul]
    · rw [if_neg hir,if_neg hjs];have hg:=h.bas.gen (s:=(T.col.getD s 0).toNat) hrM (by have:=h.rM;omega) hir hx;rw [e1,e2,ep,h.num i hi s hs,h.den]
      have e3:tt A bs i x*tt A bs r (A (T.col.getD s 0).toNat)+ -(tt A bs r x*tt A bs i (A (T.col.getD s 0).toNat))=Go.Det.den A bs*((dD A bs).sign*dT A (bs.set r (T.col.getD s 0).toNat) i x):=by rw [hg,Int.mul_comm (tt A bs i x)];omega
      rw [e3,Int.mul_tdiv_cancel_left _ (by omega)];unfold tt;rw [ep] at hsg;unfold tt at hsg;rcases hsg with ⟨h1,h2⟩|⟨h1,h2⟩
      · rw [if_neg (by omega),h1,Int.one_mul]
      · rw [if_pos h2,h1,Int.neg_mul,Int.neg_mul,Int.one_mul]
  have two:∀i,i<T.rows.length→(Go.Proofs.YtojkdfilabmafaaGreat.pvt T r s).at i s=tt A (bs.set r (T.col.getD s 0).toNat) i (A (bs.getD r 0)):=by
    intro i hi;rw [pvt_at hi hrl (h.row i hi) (by omega) (by omega),if_pos J,if_pos J];unfold tt;by_cases hir:i=r
    · subst hir;rw [if_pos J,piv_r,dT_own (by omega),h.den];unfold Go.Det.den;rcases hsg with ⟨h1,h2⟩|⟨h1,h2⟩
      · rw [if_neg (by omega),h1,Int.one_mul]
      · rw [if_pos h2,h1,Int.neg_mul,Int.neg_mul,Int.one_mul]
    · rw [if_neg hir,piv_l (by omega) (by have:=h.rM;omega) hir,h.num i hi s hs];unfold tt;rcases hsg with ⟨h1,h2⟩|⟨h1,h2⟩
      · rw [if_neg (by omega),h1,Int.one_mul,Int.mul_neg]
      · rw [if_pos h2,h1];grind
  refine ⟨hB,?_,fun i hi j hj=> ?_,fun i hi=> ?_,by rw [pvt_bas];exact h.basl,fun i hi=> ?_,fun j=> ?_,fun i hi=> ?_,by rw [Xe];exact h.rm,by rw [Xe];exact h.rM⟩
  · show (if T.at r s<0 then -(T.at r s) else T.at r s)=_;unfold Go.Det.den;rw [piv_D] at hsg ⊢;rw [ep] at hsg ⊢;unfold tt at hsg ⊢;rcases hsg with ⟨h1,h2⟩|⟨h1,h2⟩
    · rw [if_neg (by omega),h1]
    · rw [if_pos h2,h1,Int.neg_mul]
  · rw [Xe] at hi;rw [Z8] at hj;show _=tt A _ i (A ((T.col.set s (T.bas.getD r 0)).getD j 0).toNat);rw [set_getDI hs];by_cases hjs:s=j
    · subst hjs;rw [if_pos J,h.basv r hr,Int.toNat_natCast];exact two i hi
    · rw [if_neg hjs];exact one i hi _ (hA _) j (by omega) (Ne.symm hjs) (h.num i hi j hj) (h.num r hrl j hj)
  · rw [Xe] at hi;rw [Z8];exact one i hi q hq T.col.length (by omega) (by omega) (h.rhs i hi) (h.rhs r hrl)
  · show (T.bas.set r (T.col.getD s 0)).getD i 0=_;rw [set_getDI (by rw [h.basl];exact hr),getD_set' (by omega)];by_cases hir:r=i
    · rw [if_pos hir,if_pos hir];have:=h.colv s;omega
    · rw [if_neg hir,if_neg hir];exact h.basv i hi
  · show 0≤(T.col.set s (T.bas.getD r 0)).getD j 0;rw [set_getDI hs];split
    · rw [h.basv r hr];omega
    · exact h.colv j
  · rw [Xe] at hi;rw [pvt_rowlen hi hrl,Z8];exact h.row i hi
theorem entS_none{gr col:List Int}:∀{j:Nat},entS gr col j<0→∀k,k<j→0≤gr.getD k 0
  |0,_,k,hk=>by omega
  |j+1,h,k,hk=>by
    simp only [entS] at h
    by_cases hc:gr.getD j 0<0∧(entS gr col j<0∨col.getD j 0<col.getD (entS gr col j).toNat 0)
    · rw [if_pos hc] at h;omega
    · rw [if_neg hc] at h
      by_cases hkj:k=j
      · subst hkj
        by_cases h5:gr.getD k 0<0
        · exact absurd ⟨h5, .inl h⟩ hc
        · omega
      · exact entS_none h k (by omega)
theorem entS_hit{gr col:List Int}:∀{j:Nat},0≤entS gr col j→gr.getD (entS gr col j).toNat 0<0∧∀k,k<j→gr.getD k 0<0→col.getD (entS gr col j).toNat 0≤col.getD k 0
  |0,h=>by simp [entS] at h
  |j+1,h=>by
    simp only [entS] at h ⊢
    by_cases hc:gr.getD j 0<0∧(entS gr col j<0∨col.getD j 0<col.getD (entS gr col j).toNat 0)
    · rw [if_pos hc,Int.toNat_natCast]
      refine ⟨hc.1,fun k hk hk2=> ?_⟩
      by_cases hkj:k=j
      · subst hkj;exact Int.le_refl _
      · rcases hc.2 with h2|h2
        · exact absurd hk2 (by have:=(entS_none (gr:=gr) (col:=col) h2) k (by omega);omega)
        · by_cases h3:0≤entS gr col j
          · have:=(entS_hit h3).2 k (by omega) hk2;omega
          · exact absurd hk2 (by have:=(entS_none (gr:=gr) (col:=col) (j:=j) (by omega)) k (by omega);omega)
    · rw [if_neg hc] at h ⊢
      have ih:=entS_hit h
      refine ⟨ih.1,fun k hk hk2=> ?_⟩
      by_cases hkj:k=j
      · subst hkj
        have:¬(col.getD k 0<col.getD (entS gr col k).toNat 0):=fun h4=>hc ⟨hk2, .inr h4⟩
        omega
      · exact ih.2 k (by omega) hk2
theorem levS_none{T:Tv}{s:Nat}:∀{j:Nat},levS T s j<0→∀k,k<j→T.at k s≤0
  |0,_,k,hk=>by omega
  |j+1,h,k,hk=>by
    simp only [levS] at h
    by_cases h1:T.at j s≤0
    · rw [if_pos h1] at h
      by_cases hkj:k=j
      · subst hkj;exact h1
      · exact levS_none h k (by omega)
    · rw [if_neg h1] at h
      split at h
      · omega
      · split at h
        · omega
        · rename_i h2 _;exact absurd h h2
theorem ratio_trans{a b c d e f:Int}(hd:0<d)(hb:0<b)(hf:0<f)(h1:a*d≤c*b)(h2:c*f≤e*d):a*f≤e*b∧(a*f=e*b→a*d=c*b∧c*f=e*d):=by
  have e1:a*d*f≤c*b*f:=Int.mul_le_mul_of_nonneg_right h1 (by omega);have e2:c*f*b≤e*d*b:=Int.mul_le_mul_of_nonneg_right h2 (by omega)
  have e3:(a*f)*d≤(e*b)*d:=by grind
  constructor
  · exact Int.le_of_mul_le_mul_right e3 hd
  · intro h3
    have e4:a*f*d=e*b*d:=by rw [h3]
    have q1:a*d*f=a*f*d:=by grind
    have q2:c*b*f=c*f*b:=by grind
    have q3:e*d*b=e*b*d:=by grind
    constructor
    · have:a*d*f=c*b*f:=by omega
      exact Int.eq_of_mul_eq_mul_right (by omega) this
    · have:c*f*b=e*d*b:=by omega
      exact Int.eq_of_mul_eq_mul_right (by omega) this
theorem levS_hit{T:Tv}{s:Nat}:∀{j:Nat},0≤levS T s j→0<T.at (levS T s j).toNat s∧∀k,k<j→0<T.at k s→
    T.at (levS T s j).toNat T.col.length*T.at k s≤T.at k T.col.length*T.at (levS T s j).toNat s∧(T.at (levS T s j).toNat T.col.length*T.at k s=T.at k T.col.length*T.at (levS T s j).toNat s→T.bas.getD (levS T s j).toNat 0≤T.bas.getD k 0)
  |0,h=>by simp [levS] at h
  |j+1,h=>by
    simp only [levS] at h ⊢
    by_cases h1:T.at j s≤0
    · rw [if_pos h1] at h ⊢
      have ih:=levS_hit h
      refine ⟨ih.1,fun k hk hk2=> ?_⟩
      by_cases hkj:k=j
      · subst hkj;omega
      · exact ih.2 k (by omega) hk2
    · rw [if_neg h1] at h ⊢
      by_cases h2:levS T s j<0
      · rw [if_pos h2,Int.toNat_natCast]
        refine ⟨by omega,fun k hk hk2=> ?_⟩
        by_cases hkj:k=j
        · subst hkj;exact ⟨Int.le_refl _,fun _=>Int.le_refl _⟩
        · have:=levS_none h2 k (by omega);omega
      · rw [if_neg h2] at h ⊢
        have ih:=levS_hit (T:=T) (s:=s) (j:=j) (by omega)
        generalize (levS T s j)=l at*
        by_cases h3:T.at j T.col.length*T.at l.toNat s+ -(T.at l.toNat T.col.length*T.at j s)<0∨(T.at j T.col.length*T.at l.toNat s+ -(T.at l.toNat T.col.length*T.at j s)=0∧T.bas.getD j 0<T.bas.getD l.toNat 0)
        · rw [if_pos h3,Int.toNat_natCast]
          refine ⟨by omega,fun k hk hk2=> ?_⟩
          by_cases hkj:k=j
          · subst hkj;exact ⟨Int.le_refl _,fun _=>Int.le_refl _⟩
          · have i2:=ih.2 k (by omega) hk2
            have r:=ratio_trans ih.1 (show 0<T.at j s by omega) hk2 (a:=T.at j T.col.length) (c:=T.at l.toNat T.col.length) (e:=T.at k T.col.length) (by omega) i2.1
            refine ⟨r.1,fun he=> ?_⟩
            have r2:=r.2 he
            have:=i2.2 r2.2
            rcases h3 with h3|h3
            · omega
            · omega
        · rw [if_neg h3]
          refine ⟨ih.1,fun k hk hk2=> ?_⟩
          by_cases hkj:k=j
          · subst hkj
            refine ⟨by omega,fun he=> ?_⟩
            have:¬(T.bas.getD k 0<T.bas.getD l.toNat 0):=fun h5=>h3 (.inr ⟨by omega,h5⟩)
            omega
          · exact ih.2 k (by omega) hk2
end Go.Proofs.YtojkdfilabmafaaGreat
namespace Go.Proofs.YtojkdfilabmafaaGreat
open Go.Own Go.Limbs Go.Det
structure Sys (A : Nat → Vec) (V : Vec → Prop) (M : Nat) (q : Vec) : Prop where
  hq : V q
  hA : ∀ v, V (A v)
  smT : ∀ bs i x, bs.length = M → i < M → V x → x = q ∨ (∃ v, x = A v) → (dT A bs i x).natAbs < 1073741824 ^ 60
  smD : ∀ bs, bs.length = M → (dD A bs).natAbs < 1073741824 ^ 60
structure Cov (W m : Nat) (T : Tv) (bs : List Nat) : Prop where
  all : ∀ v, v < W → (∃ i, i < m ∧ bs.getD i 0 = v) ∨ ∃ j, j < T.col.length ∧ T.col.getD j 0 = (v : Int)
  col : ∀ j, j < T.col.length → T.col.getD j 0 < (W : Int)
  bas : ∀ i, i < m → bs.getD i 0 < W
  dis : ∀ j i, j < T.col.length → i < m → T.col.getD j 0 ≠ (bs.getD i 0 : Nat)
  inj : ∀ j k, j < T.col.length → k < T.col.length → j ≠ k → T.col.getD j 0 ≠ T.col.getD k 0
structure Good (A : Nat → Vec) (V : Vec → Prop) (M m : Nat) (q : Vec) (W : Nat) (T : Tv) (bs : List Nat) : Prop where
  view : View A V M m q T bs
  cov : Cov W m T bs
  feas : ∀ i, i < m → 0 ≤ tt A bs i q
  hl : T.hl.length = T.rows.length
  few : T.rows.length ≤ 100
  thin : T.col.length ≤ 100
section
variable {A : Nat → Vec} {V : Vec → Prop} {M m W : Nat} {q : Vec} {T : Tv} {bs : List Nat}
theorem tt_small(h:Sys A V M q){i:Nat}{x:Vec}(hl:bs.length=M)(hi:i<M)(hx:V x)(hx2:x=q∨∃v,x=A v):(limbs (tt A bs i x).natAbs).length≤60:=by
  refine Xn (Nat.lt_of_le_of_lt ?_ (h.smT bs i x hl hi hx hx2));unfold tt;rw [Int.natAbs_mul]
  have:(dD A bs).sign.natAbs≤1:=by rw [Int.natAbs_sign];split <;>omega
  exact Nat.le_trans (Nat.mul_le_mul_right _ this) (by omega)
theorem den_small(h:Sys A V M q)(hl:bs.length=M):(limbs (Go.Det.den A bs).natAbs).length≤60:=by
  refine Xn (Nat.lt_of_le_of_lt ?_ (h.smD bs hl));unfold Go.Det.den;rw [Int.natAbs_mul]
  have:(dD A bs).sign.natAbs≤1:=by rw [Int.natAbs_sign];split <;>omega
  exact Nat.le_trans (Nat.mul_le_mul_right _ this) (by omega)
theorem View.gd(h:View A V M m q T bs)(hS:Sys A V M q)(hl:T.hl.length=T.rows.length)(hf:T.rows.length≤100)(ht:T.col.length≤100):Gd T:=by
  refine ⟨⟨hl,h.row,by rw [h.basl];exact h.rm,hf,ht⟩,fun i j=> ?_,by rw [h.den];exact den_pos h.bas.ne,by rw [h.den];exact den_small hS h.bas.len⟩;by_cases hi:i<T.rows.length
  · have hiM:i<M:=by have:=h.rM;omega
    by_cases hj:j<T.col.length
    · rw [h.num i hi j hj];exact tt_small hS h.bas.len hiM (hS.hA _) (.inr ⟨_,rfl⟩)
    · by_cases hj2:j=T.col.length
      · rw [hj2,h.rhs i hi];exact tt_small hS h.bas.len hiM hS.hq (.inl J)
      · have:T.at i j=0:=by
          unfold Tv.at;exact getD_ge (by rw [h.row i hi];omega)
        rw [this];rw [show (0:Int).natAbs=0 from rfl,limbs_zero];decide
  · have:T.at i j=0:=by
      unfold Tv.at
      have:T.rows.getD i []=[]:=by rw [List.getD_eq_getElem?_getD,List.getElem?_eq_none (by omega)];rfl
      rw [this];rfl
    rw [this];rw [show (0:Int).natAbs=0 from rfl,limbs_zero];decide
theorem Cov.pvt(h:Cov W m T bs)(hv:View A V M m q T bs){r s:Nat}(hr:r<m)(hs:s<T.col.length):Cov W m (pvt T r s) (bs.set r (T.col.getD s 0).toNat):=by
  have hlen:=hv.bas.len
  have hrM:r<M:=by have:=hv.rm;have:=hv.rM;omega
  have hc:=hv.colv s;have hcW:=h.col s hs;have hne:=hv.bas.ne
  have key:∀j,(Go.Proofs.YtojkdfilabmafaaGreat.pvt T r s).col.getD j 0=if s=j then ((bs.getD r 0:Nat):Int) else T.col.getD j 0:=fun j=>by
    show (T.col.set s (T.bas.getD r 0)).getD j 0=_;rw [set_getDI hs,hv.basv r hr]
  have hmM:m≤M:=Nat.le_trans hv.rm hv.rM
  have bdis:∀i,i<m→i≠r→bs.getD i 0≠bs.getD r 0:=fun i hi hir e=>hne (dup_zero (i:=r) (k:=i) (by omega) (by omega) hir e.symm)
  refine ⟨fun v hvW=> ?_,fun j hj=> ?_,fun i hi=> ?_,fun j i hj hi=> ?_,fun j k hj hk hjk=> ?_⟩;rotate_left;rotate_left;rotate_left
  · rw [Z8] at hj;rw [key,getD_set' (by omega)];by_cases h1:s=j
    · rw [if_pos h1];by_cases h2:r=i
      · rw [if_pos h2];have:=h.dis s r hs hr;omega
      · rw [if_neg h2];have:=bdis i hi (Ne.symm h2);omega
    · rw [if_neg h1];by_cases h2:r=i
      · rw [if_pos h2];have:=h.inj j s hj hs (Ne.symm h1);omega
      · rw [if_neg h2];exact h.dis j i hj hi
  · rw [Z8] at hj hk;rw [key,key];by_cases h1:s=j
    · rw [if_pos h1,if_neg (by omega)];exact (h.dis k r hk hr).symm
    · rw [if_neg h1];by_cases h2:s=k
      · rw [if_pos h2];exact h.dis j r hj hr
      · rw [if_neg h2];exact h.inj j k hj hk hjk
  · rcases h.all v hvW with ⟨i,hi,he⟩|⟨j,hj,he⟩
    · by_cases hir:r=i
      · subst hir;refine .inr ⟨s,by rw [Z8];exact hs,?_⟩;show (T.col.set s (T.bas.getD r 0)).getD s 0=_;rw [set_getDI hs,if_pos J,hv.basv r hr,he]
      · exact .inl ⟨i,hi,by rw [getD_set' (by omega),if_neg hir];exact he⟩
    · by_cases hjs:s=j
      · subst hjs;exact .inl ⟨r,hr,by rw [getD_set' (by omega),if_pos J,he];rfl⟩
      · refine .inr ⟨j,by rw [Z8];exact hj,?_⟩;show (T.col.set s (T.bas.getD r 0)).getD j 0=_;rw [set_getDI hs,if_neg hjs];exact he
  · rw [Z8] at hj;show (T.col.set s (T.bas.getD r 0)).getD j 0<_;rw [set_getDI hs];split
    · rw [hv.basv r hr];have:=h.bas r hr;omega
    · exact h.col j hj
  · rw [getD_set' (by omega)];split
    · omega
    · exact h.bas i hi
def en (g : Nat) (T : Tv) : Int := entS (T.rows.getD g []) T.col T.col.length
def lv (g : Nat) (T : Tv) : Int := levS T (en g T).toNat T.bas.length
def stop (g : Nat) (T : Tv) : Prop := en g T < 0 ∨ lv g T < 0
theorem en_bd(g:Nat)(T:Tv): -1≤en g T∧en g T<T.col.length:=entS_bd _ _ _
theorem lv_bd(g:Nat)(T:Tv): -1≤lv g T∧lv g T<T.bas.length:=levS_bd _ _ _
theorem Good.step(h:Good A V M m q W T bs)(hS:Sys A V M q){g:Nat}(hg:m≤g)(hgT:g<T.rows.length)(hn:¬stop g T):
    Step A m g q (fun v=>v<W) bs (lv g T).toNat (T.col.getD (en g T).toNat 0).toNat:=by
  have b1:=en_bd g T;have b2:=lv_bd g T
  have he0:0≤en g T:=by unfold stop at hn;omega
  have hl0:0≤lv g T:=by unfold stop at hn;omega
  have eh:=entS_hit (show 0≤entS (T.rows.getD g []) T.col T.col.length from he0);have lh:=levS_hit (show 0≤levS T (en g T).toNat T.bas.length from hl0);obtain ⟨e,he⟩:∃e:Nat,en g T=e:=⟨(en g T).toNat,by omega⟩;obtain ⟨l,hl⟩:∃l:Nat,lv g T=l:=⟨(lv g T).toNat,by omega⟩;rw [show entS (T.rows.getD g []) T.col T.col.length=en g T from rfl,he] at eh;rw [show levS T (en g T).toNat T.bas.length=lv g T from rfl,hl,he] at lh;rw [hl,he];simp only [Int.toNat_natCast] at eh lh ⊢;rw [h.view.basl] at b2
  have heT:e<T.col.length:=by omega
  have hlm:l<m:=by omega
  have hV:=h.view;have hrm:=hV.rm;have hrM:=hV.rM;have hce:=hV.colv e;have hcW:=h.cov.col e heT;refine ⟨hlm,by omega,?_,fun v hv hvW=> ?_,?_,fun i hi hp=> ?_,fun i hi hp he2=> ?_⟩
  · rw [←hV.num g hgT e heT];exact eh.1
  · rcases h.cov.all v hvW with ⟨i,hi,hb⟩|⟨j,hj,hb⟩
    · rw [←hb,Yd hV.bas.len (by omega) (by omega) (by omega)];exact Int.le_refl _
    · have h1:=hV.num g hgT j hj;rw [hb,Int.toNat_natCast] at h1;rw [←h1]
      refine Classical.byContradiction fun h2=> ?_
      have:=eh.2 j hj (by show T.at g j<0;omega);omega
  · rw [←hV.num l (by omega) e heT];exact lh.1
  · rw [←hV.num i (by omega) e heT,←hV.num l (by omega) e heT,←hV.rhs i (by omega),←hV.rhs l (by omega)];rw [←hV.num i (by omega) e heT] at hp;exact (lh.2 i (by rw [hV.basl];exact hi) hp).1
  · rw [←hV.num i (by omega) e heT,←hV.num l (by omega) e heT,←hV.rhs i (by omega),←hV.rhs l (by omega)] at he2;rw [←hV.num i (by omega) e heT] at hp;have:=(lh.2 i (by rw [hV.basl];exact hi) hp).2 he2;rw [hV.basv l hlm,hV.basv i hi] at this;omega
theorem Good.pvt(h:Good A V M m q W T bs)(hS:Sys A V M q){g:Nat}(hg:m≤g)(hgT:g<T.rows.length)(hn:¬stop g T):
    Good A V M m q W (pvt T (lv g T).toNat (en g T).toNat) (bs.set (lv g T).toNat (T.col.getD (en g T).toNat 0).toNat):=by
  have st:=h.step hS hg hgT hn;have b1:=en_bd g T;have b2:=lv_bd g T
  have he0:0≤en g T:=by unfold stop at hn;omega
  have hl0:0≤lv g T:=by unfold stop at hn;omega
  rw [h.view.basl] at b2;have hV:=h.view;have hrm:=hV.rm;have hrM:=hV.rM
  have hp:T.at (lv g T).toNat (en g T).toNat≠0:=by
    rw [hV.num _ (by omega) _ (by omega)];have:=st.lev;omega
  refine ⟨hV.pvt hS.hq hS.hA (by omega) (by omega) hp,h.cov.pvt hV (by omega) (by omega),st.feas hV.bas (by omega) hS.hq h.feas,?_,by rw [Xe];exact h.few,by rw [Z8];exact h.thin⟩;rw [Xe];exact h.hl
def nx (g : Nat) (x : Tv × List Nat) : Tv × List Nat := (pvt x.1 (lv g x.1).toNat (en g x.1).toNat, x.2.set (lv g x.1).toNat (x.1.col.getD (en g x.1).toNat 0).toNat)
def it (g : Nat) : Nat → Tv × List Nat → Tv × List Nat
  | 0, x => x
  | n + 1, x => it g n (nx g x)
theorem it_succ(g:Nat):∀n x,it g (n+1) x=nx g (it g n x)
  |0,_=>rfl
  |n+1,x=>by
    show it g (n+1) (nx g x)=_
    rw [it_succ g n (nx g x)];rfl
theorem least{p:Nat→Prop}(h:∃k,p k):∃k,p k∧∀j,j<k→¬p j:=by
  obtain ⟨k,hk⟩:=h
  induction k using Nat.strongRecOn with
  |ind k ih=>
    by_cases h1:∃j,j<k∧p j
    · obtain ⟨j,hj,hp⟩:=h1;exact ih j hj hp
    · exact ⟨k,hk,fun j hj hp=>h1 ⟨j,hj,hp⟩⟩
theorem nx_rows(g:Nat)(x:Tv × List Nat):(nx g x).1.rows.length=x.1.rows.length:=Xe _ _ _
def EndP (A : Nat → Vec) (m g W : Nat) (T : Tv) (bs : List Nat) (s : Int) : Prop :=
  (s = -1 ∧ ∀ v, v < W → 0 ≤ tt A bs g (A v)) ∨ ∃ e : Nat, s = e ∧ e < T.col.length ∧ tt A bs g (A (T.col.getD e 0).toNat) < 0 ∧ ∀ i, i < m → tt A bs i (A (T.col.getD e 0).toNat) ≤ 0
theorem Good.endp(h:Good A V M m q W T bs){g:Nat}(hg:m≤g)(hgT:g<T.rows.length)(hs:stop g T):∃s,EndP A m g W T bs s∧((en g T<0∧s= -1)∨(0≤en g T∧lv g T<0∧s=en g T)):=by
  have hV:=h.view;have hrM:=hV.rM;have b1:=en_bd g T;by_cases he:en g T<0
  · refine ⟨-1, .inl ⟨rfl,fun v hv=> ?_⟩, .inl ⟨he,rfl⟩⟩;rcases h.cov.all v hv with ⟨i,hi,hb⟩|⟨j,hj,hb⟩
    · rw [←hb,Yd hV.bas.len (by omega) (by omega) (by omega)];exact Int.le_refl _
    · have h1:=hV.num g hgT j hj;rw [hb,Int.toNat_natCast] at h1;rw [←h1];exact entS_none he j hj
  · have hl:lv g T<0:=by unfold stop at hs;omega
    obtain ⟨e,hee⟩:∃e:Nat,en g T=e:=⟨(en g T).toNat,by omega⟩;have eh:=entS_hit (show 0≤entS (T.rows.getD g []) T.col T.col.length by show 0≤en g T;omega);rw [show entS (T.rows.getD g []) T.col T.col.length=en g T from rfl,hee] at eh;simp only [Int.toNat_natCast] at eh;refine ⟨en g T, .inr ⟨e,hee,by omega,?_,fun i hi=> ?_⟩, .inr ⟨by omega,hl,rfl⟩⟩
    · rw [←hV.num g hgT e (by omega)];exact eh.1
    · rw [←hV.num i (by have:=hV.rm;omega) e (by omega)];have:=levS_none hl i (by rw [hV.basl];exact hi);rw [hee] at this;simpa using this
theorem it_ok(hS:Sys A V M q){g:Nat}(hg:m≤g):∀(n:Nat) (x:Tv × List Nat),Good A V M m q W x.1 x.2→g<x.1.rows.length→(∀j,j<n→¬stop g (it g j x).1)→Good A V M m q W (it g n x).1 (it g n x).2∧(it g n x).1.rows.length=x.1.rows.length∧∀j,m≤j→(it g n x).2.getD j 0=x.2.getD j 0
  |0,x,h,_,_=>⟨h,rfl,fun _ _=>rfl⟩
  |n+1,x,h,hgT,hn=>by
    have h0:=hn 0 (by omega)
    have h1:=h.pvt hS hg hgT h0
    obtain ⟨a1,a2,a3⟩:=it_ok hS hg n (nx g x) h1 (by rw [nx_rows];exact hgT) (fun j hj=>hn (j+1) (by omega))
    refine ⟨a1,by rw [←nx_rows g x];exact a2,fun j hj=> ?_⟩
    show (it g n (nx g x)).2.getD j 0=_
    rw [a3 j hj]
    show (x.2.set _ _).getD j 0=_
    have b2:=lv_bd g x.1
    have hV:=h.view
    have hlen:=hV.bas.len
    have hrm:=hV.rm
    have hrM:=hV.rM
    rw [hV.basl] at b2
    have hl0:0≤lv g x.1:=by
      have h0' :¬stop g x.1:=h0;unfold stop at h0';omega
    rw [getD_set' (by omega),if_neg (by omega)]
theorem it_run{g:Nat}(hS:Sys A V M q)(hg:m≤g){s:Int}:∀(n:Nat) (x:Tv × List Nat),Good A V M m q W x.1 x.2→g<x.1.rows.length→(∀j,j<n→¬stop g (it g j x).1)→
    ((en g (it g n x).1<0∧s= -1)∨(0≤en g (it g n x).1∧lv g (it g n x).1<0∧s=en g (it g n x).1))→RunOk g (it g n x).1 s n x.1
  |0,x,h,_,_,hs=>⟨h.view.gd hS h.hl h.few h.thin,rfl,hs⟩
  |n+1,x,h,hgT,hn,hs=>by
    have h0:¬stop g x.1:=hn 0 (by omega)
    have h1:=h.pvt hS hg hgT h0
    refine ⟨h.view.gd hS h.hl h.few h.thin,?_,?_,it_run hS hg n (nx g x) h1 (by rw [nx_rows];exact hgT) (fun j hj=>hn (j+1) (by omega)) hs⟩
    · have:0≤en g x.1:=by unfold stop at h0;omega
      exact this
    · have:0≤lv g x.1:=by unfold stop at h0;omega
      exact this
theorem Good.ends(h:Good A V M m q W T bs)(hS:Sys A V M q){g:Nat}(hg:m≤g)(hgT:g<T.rows.length)(hN:∀d∈bs,d<W+M+2):
    ∃k T' s bs',RunOk g T' s k T∧Good A V M m q W T' bs'∧EndP A m g W T' bs' s∧T'.rows.length=T.rows.length∧∀j,m≤j→bs'.getD j 0=bs.getD j 0:=by
  have hex:∃k,stop g (it g k (T,bs)).1:=by
    refine Classical.byContradiction fun hno=> ?_
    have hn:∀k,¬stop g (it g k (T,bs)).1:=fun k hk=>hno ⟨k,hk⟩
    have hG:=fun k=>it_ok (W:=W) hS hg k (T,bs) h hgT (fun j _=>hn j)
    have R:Run A V M m g q (fun v=>v<W) (W+M+2) (fun k=>(it g k (T,bs)).2) (fun k=>(lv g (it g k (T,bs)).1).toNat) (fun k=>((it g k (T,bs)).1.col.getD (en g (it g k (T,bs)).1).toNat 0).toNat):=
      ⟨h.view.bas,h.feas,hS.hq,hS.hA,hg,by have:=h.view.rM;omega,fun k=>(hG k).1.step hS hg (by rw [(hG k).2.1];exact hgT) (hn k),fun k=>by show (it g (k+1) (T,bs)).2=_;rw [it_succ];rfl,hN,fun v hv=>by omega⟩
    exact R.no
  obtain ⟨k,hk,hkl⟩:=least hex;obtain ⟨a1,a2,a3⟩:=it_ok (W:=W) hS hg k (T,bs) h hgT hkl;obtain ⟨s,hs1,hs2⟩:=a1.endp hg (by rw [a2];exact hgT) hk;exact ⟨k,_,s,_,it_run hS hg k (T,bs) h hgT hkl hs2,a1,hs1,a2,a3⟩
end
def colA (n : Nat) (rs : List Rw) (c : List Int) (v : Nat) : Vec := fun j =>
  if v < n then (if j < rs.length then (rs.getD j rw0).cs.getD v 0 else if j = rs.length then -(c.getD v 0) else 0)
  else if v < n + rs.length then (if j = v - n then 1 else 0)
  else if v = n + rs.length then (if j < rs.length then -1 else if j = rs.length + 1 then 1 else 0)
  else if v = n + rs.length + 1 then (if j = rs.length then 1 else 0)
  else if v = n + rs.length + 2 then (if j = rs.length + 1 then 1 else 0) else 0
def rhsQ (rs : List Rw) : Vec := fun j => if j < rs.length then (rs.getD j rw0).b else 0
def bs0 (n m : Nat) : List Nat := (List.range m).map (fun i => n + i) ++ [n + m + 1, n + m + 2]
def Vok (M : Nat) (x : Vec) : Prop := ∀ j, M ≤ j → x j = 0
theorem bs0_len(n m:Nat):(bs0 n m).length=m+2:=by simp [bs0]
theorem bs0_lo{n m i:Nat}(h:i<m):(bs0 n m).getD i 0=n+i:=by
  simp [bs0,List.getD_eq_getElem?_getD,List.getElem?_append_left,h]
theorem bs0_z(n m:Nat):(bs0 n m).getD m 0=n+m+1:=by simp [bs0,List.getD_eq_getElem?_getD]
theorem bs0_w(n m:Nat):(bs0 n m).getD (m+1) 0=n+m+2:=by simp [bs0,List.getD_eq_getElem?_getD]
section
variable {n : Nat} {rs : List Rw} {c : List Int}
theorem Y0{v:Nat}(h:v<n)(j:Nat):colA n rs c v j=if j<rs.length then (rs.getD j rw0).cs.getD v 0 else if j=rs.length then -(c.getD v 0) else 0:=by
  unfold colA;rw [if_pos h]
theorem Zn{i:Nat}(h:i<rs.length):colA n rs c (n+i)=unit i:=by
  funext j
  unfold colA Go.Det.unit;rw [if_neg (by omega),if_pos (by omega)]
  congr 1
  exact propext ⟨fun h=>by omega,fun h=>by omega⟩
theorem colA_art:colA n rs c (n+rs.length)=fun j=>if j<rs.length then -1 else if j=rs.length+1 then 1 else 0:=by
  funext j
  unfold colA;rw [if_neg (by omega),if_neg (by omega),if_pos J]
theorem colA_z:colA n rs c (n+rs.length+1)=unit rs.length:=by
  funext j
  unfold colA Go.Det.unit;rw [if_neg (by omega),if_neg (by omega),if_neg (by omega),if_pos J]
theorem colA_w:colA n rs c (n+rs.length+2)=unit (rs.length+1):=by
  funext j
  unfold colA Go.Det.unit;rw [if_neg (by omega),if_neg (by omega),if_neg (by omega),if_neg (by omega),if_pos J]
theorem bs0_unit{i:Nat}(h:i<rs.length+2):colA n rs c ((bs0 n rs.length).getD i 0)=unit i:=by
  by_cases h1:i<rs.length
  · rw [bs0_lo h1,Zn h1]
  · by_cases h2:i=rs.length
    · subst h2;rw [bs0_z,colA_z]
    · have:i=rs.length+1:=by omega
      subst this;rw [bs0_w,colA_w]
theorem colA_V(v:Nat):Vok (rs.length+2) (colA n rs c v):=fun j hj=>by
  unfold colA
  split
  · rw [if_neg (by omega),if_neg (by omega)]
  · split
    · rw [if_neg (by omega)]
    · split
      · rw [if_neg (by omega),if_neg (by omega)]
      · split
        · rw [if_neg (by omega)]
        · split
          · rw [if_neg (by omega)]
          · rfl
theorem rhsQ_V:Vok (rs.length+2) (rhsQ rs):=fun j hj=>by unfold rhsQ;rw [if_neg (by omega)]
theorem bs0_bas:Bas (colA n rs c) (Vok (rs.length+2)) (rs.length+2) (bs0 n rs.length)∧dD (colA n rs c) (bs0 n rs.length)=1:=
  Bas.start (bs0_len n rs.length) (fun i hi=>bs0_unit hi) (fun x hx=>hx)
theorem bs0_tt{i:Nat}(hi:i<rs.length+2){x:Vec}(hx:Vok (rs.length+2) x):tt (colA n rs c) (bs0 n rs.length) i x=x i:=by
  unfold tt;rw [bs0_bas.2,dT_unit (bs0_len n rs.length) (fun i hi=>bs0_unit hi) hx hi];show 1*_=_;omega
structure LpOk (n : Nat) (rs : List Rw) (c : List Int) : Prop where
  nn : n ≤ 16
  mm : rs.length ≤ 64
  cl : c.length ≤ n
  cb : ∀ i, (c.getD i 0).natAbs ≤ 1048576
  rl : ∀ r ∈ rs, r.cs.length ≤ n
  rb : ∀ r ∈ rs, ∀ i, (r.cs.getD i 0).natAbs ≤ 1048576
  bb : ∀ r ∈ rs, r.b.natAbs ≤ 4503599627370496
theorem rs_mem{j:Nat}(h:j<rs.length):rs.getD j rw0∈rs:=getD_mem h
theorem colA_bd(h:LpOk n rs c)(v j:Nat):(colA n rs c v j).natAbs≤1048576:=by
  unfold colA;split
  · split
    · rename_i h1 h2;exact h.rb _ (rs_mem h2) v
    · split
      · rw [Int.natAbs_neg];exact h.cb v
      · decide
  · repeat' split
    all_goals decide
theorem fact_mono:∀{a b:Nat},a≤b→fact a≤fact b:=fun {a b} h=>by
  induction b with
  |zero=>rw [show a=0 by omega];exact Nat.le_refl _
  |succ b ih=>
    rcases Nat.lt_or_ge a (b+1) with h1|h1
    · refine Nat.le_trans (ih (by omega)) ?_
      show fact b≤(b+1)*fact b
      exact Nat.le_mul_of_pos_left _ (by omega)
    · rw [show a=b+1 by omega];exact Nat.le_refl _
theorem big_bd{M:Nat}(h:M≤66):fact M*1048576 ^ M≤fact 66*1048576 ^ 66:=Nat.mul_le_mul (fact_mono h) (Nat.pow_le_pow_right (by decide) h)
theorem dt_A{l:List Vec}(h:LpOk n rs c)(hl:l.length=rs.length+2)(hA:∀x∈l,∀i,(x i).natAbs≤1048576):(dt l).natAbs≤fact 66*1048576 ^ 66:=by
  have h1:=dt_bd l hA;rw [hl] at h1;exact Nat.le_trans h1 (big_bd (by have:=h.mm;omega))
theorem mem_set_or{l:List Vec}{i:Nat}{y x:Vec}(h:x∈l.set i y):x∈l∨x=y:=List.mem_or_eq_of_mem_set h
theorem cols_bd(h:LpOk n rs c){bs:List Nat}{x:Vec}(hx:x∈cols (colA n rs c) bs)(i:Nat):(x i).natAbs≤1048576:=by
  obtain ⟨v,_,rfl⟩:=List.mem_map.1 hx;exact colA_bd h v i
theorem sm_natAbs{f:Nat→Int}{K:Nat}:∀{M:Nat},(∀k,k<M→(f k).natAbs≤K)→(sm f M).natAbs≤M*K
  |0,_=>by simp [sm]
  |M+1,h=>by
    simp only [sm]
    have h1:=sm_natAbs (M:=M) fun k hk=>h k (by omega)
    have h2:=h M (by omega)
    rw [Nat.add_mul,Nat.one_mul]
    omega
theorem lp_sys(h:LpOk n rs c):Sys (colA n rs c) (Vok (rs.length+2)) (rs.length+2) (rhsQ rs):=by
  refine ⟨rhsQ_V,colA_V,fun bs i x hl hi hx hx2=> ?_,fun bs hl=> ?_⟩
  · rcases hx2 with rfl|⟨v,rfl⟩
    · have e:rhsQ rs=comb (rhsQ rs) unit (rs.length+2):=by
        funext j
        unfold comb;by_cases hj:j<rs.length+2
        · rw [Yj hj fun k _ hk=>by simp [Go.Det.unit,Ne.symm hk]];simp [Go.Det.unit]
        · rw [rhsQ_V j (by omega),ZV fun k hk=>by rw [show Go.Det.unit k j=0 from if_neg (by omega),Int.mul_zero]]
      have hlc:i<(cols (colA n rs c) bs).length:=by rw [Zu];omega
      have e2:dT (colA n rs c) bs i (rhsQ rs)=sm (fun k=>rhsQ rs k*dt ((cols (colA n rs c) bs).set i (unit k))) (rs.length+2):=by
        unfold dT
        conv=>lhs;rw [e]
        exact Yw hlc _ _ _
      rw [e2]
      refine Nat.lt_of_le_of_lt (sm_natAbs (K:=4503599627370496*(fact 66*1048576 ^ 66)) fun k _=> ?_) ?_
      · rw [Int.natAbs_mul]
        refine Nat.mul_le_mul ?_ (dt_A h (by rw [List.length_set,Zu];exact hl) fun x hx i=> ?_)
        · unfold rhsQ;split
          · rename_i h2;exact h.bb _ (rs_mem h2)
          · decide
        · rcases mem_set_or hx with h3|h3
          · exact cols_bd h h3 i
          · rw [h3];unfold Go.Det.unit;split <;>decide
      · refine Nat.lt_of_le_of_lt (Nat.mul_le_mul_right _ (show rs.length+2≤66 by have:=h.mm;omega)) ?_
        decide
    · refine Nat.lt_of_le_of_lt (dt_A h (by rw [List.length_set,Zu];exact hl) fun x hx i=> ?_) ?_
      · rcases mem_set_or hx with h3|h3
        · exact cols_bd h h3 i
        · rw [h3];exact colA_bd h v i
      · decide
  · refine Nat.lt_of_le_of_lt (dt_A h (by rw [Zu];exact hl) fun x hx i=>cols_bd h hx i) ?_
    decide
structure Beg (n : Nat) (rs : List Rw) (c : List Int) (T : Tv) : Prop where
  rows : T.rows = (rs.map fun r => lnOf n r.cs r.b) ++ [lnOf n (c.map fun x => -x) 0]
  bas : T.bas = rng n rs.length
  col : T.col = rng 0 n
  den : T.den = 1
  hl : T.hl.length = T.rows.length
theorem lnOf_len(n:Nat)(cs:List Int)(b:Int):(lnOf n cs b).length=n+1:=by simp [lnOf]
theorem lnOf_at{n:Nat}{cs:List Int}{b:Int}{j:Nat}(h:j<n):(lnOf n cs b).getD j 0=cs.getD j 0:=by
  simp [lnOf,List.getD_eq_getElem?_getD,List.getElem?_append_left,h]
theorem lnOf_last(n:Nat)(cs:List Int)(b:Int):(lnOf n cs b).getD n 0=b:=by simp [lnOf,List.getD_eq_getElem?_getD]
theorem rng_at{a n j:Nat}(h:j<n):(rng a n).getD j 0=((a+j:Nat):Int):=by simp [rng,List.getD_eq_getElem?_getD,h]
theorem rng_nn(a n j:Nat):0≤(rng a n).getD j 0:=by
  rcases Nat.lt_or_ge j n with h|h
  · rw [rng_at h];omega
  · rw [getD_ge (by rw [X0];exact h)];exact Int.le_refl _
theorem Beg.len{T:Tv}(h:Beg n rs c T):T.rows.length=rs.length+1:=by rw [h.rows];simp
theorem Beg.lo{T:Tv}(h:Beg n rs c T){i:Nat}(hi:i<rs.length):T.rows.getD i []=lnOf n (rs.getD i rw0).cs (rs.getD i rw0).b:=by
  rw [h.rows];simp [List.getD_eq_getElem?_getD,List.getElem?_append_left,hi]
theorem Beg.hi{T:Tv}(h:Beg n rs c T):T.rows.getD rs.length []=lnOf n (c.map fun x=> -x) 0:=by
  rw [h.rows];simp [List.getD_eq_getElem?_getD]
theorem neg_getD(c:List Int)(j:Nat):(c.map fun x=> -x).getD j 0= -(c.getD j 0):=by
  simp only [List.getD_eq_getElem?_getD,List.getElem?_map]
  cases c[j]? <;>simp
theorem Beg.view{T:Tv}(h:Beg n rs c T):View (colA n rs c) (Vok (rs.length+2)) (rs.length+2) rs.length (rhsQ rs) T (bs0 n rs.length):=by
  have hl:=h.len
  have hcl:T.col.length=n:=by rw [h.col,X0]
  refine ⟨bs0_bas.1,?_,fun i hi j hj=> ?_,fun i hi=> ?_,by rw [h.bas,X0],fun i hi=> ?_,fun j=>by rw [h.col];exact rng_nn _ _ _,fun i hi=> ?_,by omega,by omega⟩
  · rw [h.den];unfold Go.Det.den;rw [bs0_bas.2];rfl
  · rw [hcl] at hj;rw [bs0_tt (by omega) (colA_V _),h.col,rng_at hj,Nat.zero_add,Int.toNat_natCast,Y0 hj];unfold Tv.at;by_cases h1:i<rs.length
    · rw [if_pos h1,h.lo h1,lnOf_at hj]
    · rw [if_neg h1,if_pos (by omega),show i=rs.length by omega,h.hi,lnOf_at hj,neg_getD]
  · rw [bs0_tt (by omega) rhsQ_V];unfold Tv.at rhsQ;rw [hcl];by_cases h1:i<rs.length
    · rw [if_pos h1,h.lo h1,lnOf_last]
    · rw [if_neg h1,show i=rs.length by omega,h.hi,lnOf_last]
  · rw [h.bas,rng_at hi,bs0_lo hi]
  · by_cases h1:i<rs.length
    · rw [h.lo h1,lnOf_len,hcl]
    · rw [show i=rs.length by omega,h.hi,lnOf_len,hcl]
theorem insL_at{m q k:Nat}{l:List Int}(hq:l.length=q+1){j:Nat}:(insL m q k l).getD j 0=if j<q then l.getD j 0 else if j=q then insX m k else l.getD (j - 1) 0:=by
  unfold insL;simp only [List.getD_eq_getElem?_getD];by_cases h1:j<q
  · rw [if_pos h1,List.getElem?_append_left (by rw [List.length_take];omega),List.getElem?_take,if_pos h1]
  · rw [if_neg h1,List.getElem?_append_right (by rw [List.length_take];omega),List.length_take,Nat.min_eq_left (by omega)];by_cases h2:j=q
    · rw [if_pos h2,h2,Nat.sub_self];rfl
    · rw [if_neg h2];obtain ⟨d,rfl⟩:∃d,j=q+1+d:=⟨j - (q+1),by omega⟩;rw [show q+1+d - q=d+1 by omega,List.getElem?_cons_succ,List.getElem?_drop,show q+1+d - 1=q+d by omega]
theorem Beg.ins{T:Tv}(h:Beg n rs c T):View (colA n rs c) (Vok (rs.length+2)) (rs.length+2) rs.length (rhsQ rs) (insT T ((n+rs.length:Nat):Int)) (bs0 n rs.length):=by
  have hl:=h.len
  have hcl:T.col.length=n:=by rw [h.col,X0]
  have hbl:T.bas.length=rs.length:=by rw [h.bas,X0]
  have hrl:(insT T ((n+rs.length:Nat):Int)).rows.length=rs.length+2:=by show (insP _ _ _ _).length=_;rw [insP_len];simp [hl]
  have hil:(insT T ((n+rs.length:Nat):Int)).col.length=n+1:=by show (T.col++ [_]).length=_;simp [hcl]
  have hr0:∀i,i<rs.length+2→((T.rows++ [List.replicate (T.col.length+1) (0:Int)]).getD i []).length=n+1∧(T.rows++ [List.replicate (T.col.length+1) (0:Int)]).getD i []=if i<rs.length+1 then T.rows.getD i [] else List.replicate (n+1) 0:=fun i hi=>by
    have e:(T.rows++ [List.replicate (T.col.length+1) (0:Int)]).getD i []=if i<rs.length+1 then T.rows.getD i [] else List.replicate (n+1) 0:=by
      by_cases h1:i<rs.length+1
      · rw [if_pos h1,List.getD_eq_getElem?_getD,List.getElem?_append_left (by omega),←List.getD_eq_getElem?_getD]
      · rw [if_neg h1,show i=T.rows.length by omega];simp [List.getD_eq_getElem?_getD,hcl]
    refine ⟨?_,e⟩;rw [e];split
    · rw [h.view.row i (by omega),hcl]
    · simp
  have hrow:∀i,i<rs.length+2→(insT T ((n+rs.length:Nat):Int)).rows.getD i []=insL rs.length n i ((T.rows++ [List.replicate (T.col.length+1) (0:Int)]).getD i []):=fun i hi=>by
    show (insP _ _ _ _).getD i []=_;unfold insP;rw [ZW _ _ _ (by simp [hl];omega),if_pos (by omega),hbl,hcl]
  have hcol:∀j,(insT T ((n+rs.length:Nat):Int)).col.getD j 0=if j<n then (j:Int) else if j=n then ((n+rs.length:Nat):Int) else 0:=fun j=>by
    show (T.col++ [_]).getD j 0=_;by_cases h1:j<n
    · rw [if_pos h1,List.getD_eq_getElem?_getD,List.getElem?_append_left (by omega),←List.getD_eq_getElem?_getD,h.col,rng_at h1,Nat.zero_add]
    · rw [if_neg h1];by_cases h2:j=n
      · rw [if_pos h2,h2,←hcl];simp [List.getD_eq_getElem?_getD]
      · rw [if_neg h2,getD_ge (by simp [hcl];omega)]
  have hat:∀i,i<rs.length+2→∀j,(insT T ((n+rs.length:Nat):Int)).at i j=if j<n then (if i<rs.length+1 then T.at i j else 0) else if j=n then insX rs.length i else if j=n+1 then (if i<rs.length+1 then T.at i n else 0) else 0:=fun i hi j=>by
    unfold Tv.at;rw [hrow i hi,insL_at (hr0 i hi).1,(hr0 i hi).2];by_cases h1:j<n
    · rw [if_pos h1,if_pos h1];split
      · rfl
      · simp [List.getD_eq_getElem?_getD,List.getElem?_replicate];split <;>rfl
    · rw [if_neg h1,if_neg h1];by_cases h2:j=n
      · rw [if_pos h2,if_pos h2]
      · rw [if_neg h2,if_neg h2];by_cases h3:j=n+1
        · rw [if_pos h3,h3,Nat.add_sub_cancel];split
          · rfl
          · simp [List.getD_eq_getElem?_getD,List.getElem?_replicate]
        · rw [if_neg h3];split
          · rw [getD_ge (by rw [h.view.row i (by omega),hcl];omega)]
          · rw [getD_ge (by simp;omega)]
  have hV:=h.view;refine ⟨bs0_bas.1,?_,fun i hi j hj=> ?_,fun i hi=> ?_,hbl,fun i hi=> ?_,fun j=> ?_,fun i hi=> ?_,by omega,by omega⟩
  · show T.den=_;exact hV.den
  · rw [hrl] at hi;rw [hil] at hj;rw [bs0_tt hi (colA_V _),hat i hi j,hcol j];by_cases h1:j<n
    · rw [if_pos h1,if_pos h1,Int.toNat_natCast];by_cases h2:i<rs.length+1
      · rw [if_pos h2];have:=hV.num i (by omega) j (by omega);rw [bs0_tt (by omega) (colA_V _),h.col,rng_at h1,Nat.zero_add,Int.toNat_natCast] at this;exact this
      · rw [if_neg h2,Y0 h1,if_neg (by omega),if_neg (by omega)]
    · rw [if_neg h1,if_pos (by omega),if_neg h1,if_pos (by omega),Int.toNat_natCast,colA_art];rfl
  · rw [hrl] at hi;rw [hil,bs0_tt hi rhsQ_V,hat i hi (n+1),if_neg (by omega),if_neg (by omega),if_pos J];by_cases h2:i<rs.length+1
    · rw [if_pos h2];have:=hV.rhs i (by omega);rw [bs0_tt (by omega) rhsQ_V,hcl] at this;exact this
    · rw [if_neg h2];unfold rhsQ;rw [if_neg (by omega)]
  · show T.bas.getD i 0=_;exact hV.basv i hi
  · rw [hcol j];split
    · omega
    · split <;>omega
  · rw [hrl] at hi;rw [hrow i hi,insL_len (by rw [(hr0 i hi).1];omega),(hr0 i hi).1,hil]
end
theorem wrS_none{T:Tv}:∀{i:Nat},wrS T i<0→∀k,k<i→0≤T.at k T.col.length
  |0,_,k,hk=>by omega
  |i+1,h,k,hk=>by
    simp only [wrS] at h
    by_cases hc:T.at i T.col.length<0∧(wrS T i<0∨T.at i T.col.length+ -(T.at (wrS T i).toNat T.col.length)<0)
    · rw [if_pos hc] at h;omega
    · rw [if_neg hc] at h
      by_cases hki:k=i
      · subst hki
        by_cases h5:T.at k T.col.length<0
        · exact absurd ⟨h5, .inl h⟩ hc
        · omega
      · exact wrS_none h k (by omega)
theorem wrS_hit{T:Tv}:∀{i:Nat},0≤wrS T i→T.at (wrS T i).toNat T.col.length<0∧∀k,k<i→T.at (wrS T i).toNat T.col.length≤T.at k T.col.length
  |0,h=>by simp [wrS] at h
  |i+1,h=>by
    simp only [wrS] at h ⊢
    by_cases hc:T.at i T.col.length<0∧(wrS T i<0∨T.at i T.col.length+ -(T.at (wrS T i).toNat T.col.length)<0)
    · rw [if_pos hc,Int.toNat_natCast]
      refine ⟨hc.1,fun k hk=> ?_⟩
      by_cases hki:k=i
      · subst hki;exact Int.le_refl _
      · by_cases h2:wrS T i<0
        · have:=wrS_none h2 k (by omega);omega
        · have h3:=(wrS_hit (T:=T) (i:=i) (by omega)).2 k (by omega)
          rcases hc.2 with h4|h4 <;>omega
    · rw [if_neg hc] at h ⊢
      have ih:=wrS_hit h
      refine ⟨ih.1,fun k hk=> ?_⟩
      by_cases hki:k=i
      · subst hki
        by_cases h5:T.at k T.col.length<0
        · have:¬(T.at k T.col.length+ -(T.at (wrS T k).toNat T.col.length)<0):=fun h6=>hc ⟨h5, .inr h6⟩
          omega
        · omega
      · exact ih.2 k (by omega)
theorem idxI_get{α:Type}{p:α→Bool}{xs:List α}(z:α)(h:0≤idxI p xs):(idxI p xs).toNat<xs.length∧p (xs.getD (idxI p xs).toNat z)=true:=by
  unfold idxI at h ⊢;by_cases ha:xs.any p=true
  · rw [if_pos ha,Int.toNat_natCast];have h1:xs.findIdx p<xs.length:=List.findIdx_lt_length_of_exists (by simpa using ha);refine ⟨h1,?_⟩;rw [List.getD_eq_getElem?_getD,List.getElem?_eq_getElem h1];exact List.findIdx_getElem (w:=h1)
  · rw [if_neg ha] at h;omega
theorem idxI_nn{α:Type}{p:α→Bool}{xs:List α}(z:α){k:Nat}(hk:k<xs.length)(hp:p (xs.getD k z)=true):0≤idxI p xs:=by
  unfold idxI;rw [if_pos (List.any_eq_true.2 ⟨xs.getD k z,getD_mem hk,hp⟩)];omega
structure Ph (n : Nat) (rs : List Rw) (c : List Int) (W : Nat) (T : Tv) (bs : List Nat) : Prop where
  good : Good (colA n rs c) (Vok (rs.length + 2)) (rs.length + 2) rs.length (rhsQ rs) W T bs
  z : bs.getD rs.length 0 = n + rs.length + 1
  w : bs.getD (rs.length + 1) 0 = n + rs.length + 2
section
variable {n : Nat} {rs : List Rw} {c : List Int} {W : Nat} {T : Tv} {bs : List Nat}
theorem Ph.bas(h:Ph n rs c W T bs):Bas (colA n rs c) (Vok (rs.length+2)) (rs.length+2) bs:=h.good.view.bas
theorem Ph.small(h:Ph n rs c W T bs)(hW:n+rs.length≤W):∀d∈bs,d<W+(rs.length+2)+2:=fun d hd=>by
  obtain ⟨i,hi,rfl⟩:=List.getElem_of_mem hd
  rw [h.bas.len] at hi
  have e:bs[i]=bs.getD i 0:=by rw [List.getD_eq_getElem?_getD,List.getElem?_eq_getElem];rfl
  rw [e]
  by_cases h1:i<rs.length
  · have:=h.good.cov.bas i h1;omega
  · by_cases h2:i=rs.length
    · rw [h2,h.z];omega
    · rw [show i=rs.length+1 by omega,h.w];omega
theorem Ph.comp(h:Ph n rs c W T bs){x:Vec}(hx:Vok (rs.length+2) x)(j:Nat):Go.Det.den (colA n rs c) bs*x j=sm (fun k=>tt (colA n rs c) bs k x*colA n rs c (bs.getD k 0) j) (rs.length+2):=by
  have h1:=h.bas.cr x hx j;unfold Go.Det.den tt
  have e:sm (fun k=>(dD (colA n rs c) bs).sign*dT (colA n rs c) bs k x*colA n rs c (bs.getD k 0) j) (rs.length+2)=(dD (colA n rs c) bs).sign*sm (fun k=>dT (colA n rs c) bs k x*colA n rs c (bs.getD k 0) j) (rs.length+2):=by
    rw [←Yz]
    exact Xa fun k _=>by grind
  rw [e,←h1];grind
theorem colA_art_w:colA n rs c (n+rs.length) (rs.length+1)=1:=by
  rw [colA_art];show (if rs.length+1<rs.length then (-1:Int) else if rs.length+1=rs.length+1 then 1 else 0)=1;rw [if_neg (by omega),if_pos J]
theorem Ph.w_eq(h:Ph n rs c W T bs)(hW:W≤n+rs.length+1){x:Vec}(hx:Vok (rs.length+2) x):
    Go.Det.den (colA n rs c) bs*x (rs.length+1)=tt (colA n rs c) bs (rs.length+1) x+sm (fun k=>if bs.getD k 0=n+rs.length then tt (colA n rs c) bs k x else 0) rs.length:=by
  rw [h.comp hx];simp only [sm];rw [h.z,h.w,colA_z,colA_w]
  have e:sm (fun k=>tt (colA n rs c) bs k x*colA n rs c (bs.getD k 0) (rs.length+1)) rs.length=sm (fun k=>if bs.getD k 0=n+rs.length then tt (colA n rs c) bs k x else 0) rs.length:=Xa fun k hk=>by
    have hb:=h.good.cov.bas k hk;by_cases h1:bs.getD k 0=n+rs.length
    · rw [if_pos h1,h1,colA_art_w,Int.mul_one]
    · rw [if_neg h1]
      have:colA n rs c (bs.getD k 0) (rs.length+1)=0:=by
        by_cases h2:bs.getD k 0<n
        · rw [Y0 h2,if_neg (by omega),if_neg (by omega)]
        · obtain ⟨i,hi⟩:∃i,bs.getD k 0=n+i:=⟨bs.getD k 0 - n,by omega⟩;rw [hi,Zn (by omega)];exact if_neg (by omega)
      rw [this,Int.mul_zero]
  rw [e];have e1:Go.Det.unit rs.length (rs.length+1)=0:=if_neg (by omega);have e2:Go.Det.unit (rs.length+1) (rs.length+1)=1:=if_pos J;rw [e1,e2];omega
theorem sm_nonneg{f:Nat→Int}:∀{m:Nat},(∀k,k<m→0≤f k)→0≤sm f m
  |0,_=>Int.le_refl _
  |m+1,h=>by simp only [sm];have:=sm_nonneg (m:=m) fun k hk=>h k (by omega);have:=h m (by omega);omega
theorem sm_zero_of{f:Nat→Int}:∀{m:Nat},(∀k,k<m→0≤f k)→sm f m≤0→∀k,k<m→f k=0
  |0,_,_,k,hk=>by omega
  |m+1,h,hs,k,hk=>by
    simp only [sm] at hs
    have h1:=sm_nonneg (m:=m) fun k hk=>h k (by omega)
    have h2:=h m (by omega)
    by_cases e:k=m
    · subst e;omega
    · exact sm_zero_of (m:=m) (fun k hk=>h k (by omega)) (by omega) k (by omega)
theorem Beg.ph(h:Beg n rs c T)(hL:LpOk n rs c)(hw:wrS T rs.length<0):Ph n rs c (n+rs.length) T (bs0 n rs.length):=by
  have hV:=h.view;have hl:=h.len
  have hcl:T.col.length=n:=by rw [h.col,X0]
  have hn:=hL.nn;have hm:=hL.mm;refine ⟨⟨hV,⟨fun v hv=> ?_,fun j hj=> ?_,fun i hi=> ?_,fun j i hj hi=> ?_,fun j k hj hk hjk=> ?_⟩,fun i hi=> ?_,h.hl,by omega,by omega⟩,bs0_z n rs.length,bs0_w n rs.length⟩
  · by_cases h1:v<n
    · exact .inr ⟨v,by omega,by rw [h.col,rng_at h1,Nat.zero_add]⟩
    · exact .inl ⟨v - n,by omega,by rw [bs0_lo (by omega)];omega⟩
  · rw [hcl] at hj;rw [h.col,rng_at hj];omega
  · rw [bs0_lo hi];omega
  · rw [hcl] at hj;rw [h.col,rng_at hj,bs0_lo hi];omega
  · rw [hcl] at hj hk;rw [h.col,rng_at hj,rng_at hk];omega
  · rw [←hV.rhs i (by omega)];exact wrS_none hw i hi
theorem Beg.ph1(h:Beg n rs c T)(hL:LpOk n rs c)(hw:0≤wrS T rs.length):
    Ph n rs c (n+rs.length+1) (pvt (insT T ((n+rs.length:Nat):Int)) (wrS T rs.length).toNat T.col.length) ((bs0 n rs.length).set (wrS T rs.length).toNat (n+rs.length))∧Gd (insT T ((n+rs.length:Nat):Int)):=by
  have hV:=h.ins;have hV0:=h.view;have hS:=lp_sys hL;have hl:=h.len
  have hcl:T.col.length=n:=by rw [h.col,X0]
  have hbl:T.bas.length=rs.length:=by rw [h.bas,X0]
  have hn:=hL.nn;have hm:=hL.mm;have hwb:=wrS_bd T rs.length;have hwh:=wrS_hit hw;obtain ⟨w,hww⟩:∃w:Nat,wrS T rs.length=w:=⟨(wrS T rs.length).toNat,by omega⟩;rw [hww] at hwb hwh ⊢;simp only [Int.toNat_natCast] at hwh ⊢
  have hrl:(insT T ((n+rs.length:Nat):Int)).rows.length=rs.length+2:=by show (insP _ _ _ _).length=_;rw [insP_len];simp [hl]
  have hil:(insT T ((n+rs.length:Nat):Int)).col.length=n+1:=by show (T.col++ [_]).length=_;simp [hcl]
  have hcol:∀j,(insT T ((n+rs.length:Nat):Int)).col.getD j 0=if j<n then (j:Int) else if j=n then ((n+rs.length:Nat):Int) else 0:=fun j=>by
    show (T.col++ [_]).getD j 0=_;by_cases h1:j<n
    · rw [if_pos h1,List.getD_eq_getElem?_getD,List.getElem?_append_left (by omega),←List.getD_eq_getElem?_getD,h.col,rng_at h1,Nat.zero_add]
    · rw [if_neg h1];by_cases h2:j=n
      · rw [if_pos h2,h2,←hcl];simp [List.getD_eq_getElem?_getD]
      · rw [if_neg h2,getD_ge (by simp [hcl];omega)]
  have hhl:(insT T ((n+rs.length:Nat):Int)).hl.length=rs.length+2:=by show (T.hl++ [default]).length=_;rw [List.length_append,h.hl,hl];rfl
  have hart:((insT T ((n+rs.length:Nat):Int)).col.getD n 0).toNat=n+rs.length:=by rw [hcol,if_neg (by omega),if_pos J,Int.toNat_natCast]
  have hcov:Cov (n+rs.length+1) rs.length (insT T ((n+rs.length:Nat):Int)) (bs0 n rs.length):=by
    refine ⟨fun v hv=> ?_,fun j hj=> ?_,fun i hi=> ?_,fun j i hj hi=> ?_,fun j k hj hk hjk=> ?_⟩
    · by_cases h1:v<n
      · exact .inr ⟨v,by omega,by rw [hcol,if_pos h1]⟩
      · by_cases h2:v=n+rs.length
        · exact .inr ⟨n,by omega,by rw [hcol,if_neg (by omega),if_pos J,h2]⟩
        · exact .inl ⟨v - n,by omega,by rw [bs0_lo (by omega)];omega⟩
    · rw [hcol];split
      · omega
      · split <;>omega
    · rw [bs0_lo hi];omega
    · rw [hil] at hj;rw [hcol,bs0_lo hi];by_cases h1:j<n
      · rw [if_pos h1];omega
      · rw [if_neg h1,if_pos (by omega)];omega
    · rw [hil] at hj hk;rw [hcol,hcol];by_cases h1:j<n
      · rw [if_pos h1];by_cases h2:k<n
        · rw [if_pos h2];omega
        · rw [if_neg h2,if_pos (by omega)];omega
      · rw [if_neg h1,if_pos (by omega)];by_cases h2:k<n
        · rw [if_pos h2];omega
        · omega
  have a1:∀i,i<rs.length→(insT T ((n+rs.length:Nat):Int)).at i n= -1:=fun i hi=>by
    rw [hV.num i (by omega) n (by omega),hart,bs0_tt (by omega) (colA_V _),colA_art];simp only;rw [if_pos hi]
  have a2:∀i,i<rs.length→(insT T ((n+rs.length:Nat):Int)).at i (n+1)=T.at i n:=fun i hi=>by
    have e1:=hV.rhs i (by omega);rw [hil] at e1;have e2:=hV0.rhs i (by omega);rw [hcl] at e2;rw [e1,e2]
  have hp:(insT T ((n+rs.length:Nat):Int)).at w n≠0:=by rw [a1 w (by omega)];decide
  have hPV:=hV.pvt hS.hq hS.hA (r:=w) (s:=n) (by omega) (by omega) hp;have hPC:=hcov.pvt hV (r:=w) (s:=n) (by omega) (by omega);rw [hart] at hPV hPC;rw [hcl] at hwh ⊢;refine ⟨⟨⟨hPV,hPC,fun i hi=> ?_,?_,by rw [Xe,hrl];omega,by rw [Z8,hil];omega⟩,?_,?_⟩,hV.gd hS (by rw [hhl,hrl]) (by omega) (by omega)⟩
  · rw [←hPV.rhs i (by rw [Xe,hrl];omega),Z8,hil];rw [pvt_at (by omega) (by omega) (hV.row i (by omega)) (by omega) (by omega),if_neg (show ¬n+1=n by omega),if_neg (show ¬n+1=n by omega)];rw [a1 w (by omega),a1 i hi,a2 i hi,a2 w (by omega),if_pos (show (-1:Int)<0 by decide)]
    have hden:(insT T ((n+rs.length:Nat):Int)).den=1:=by show T.den=1;exact h.den
    rw [hden];have:=hwh.2 i hi;by_cases h1:i=w
    · rw [if_pos h1];omega
    · rw [if_neg h1,Int.tdiv_one];omega
  · rw [Xe,hrl];exact hhl
  · rw [getD_set' (by rw [bs0_len];omega),if_neg (by omega)];exact bs0_z n rs.length
  · rw [getD_set' (by rw [bs0_len];omega),if_neg (by omega)];exact bs0_w n rs.length
structure End1 (n : Nat) (rs : List Rw) (c : List Int) (T E : Tv) (bs : List Nat) : Prop where
  ph : Ph n rs c (n + rs.length + 1) E bs
  cover : ∀ v, v < n + rs.length + 1 → 0 ≤ tt (colA n rs c) bs (rs.length + 1) (colA n rs c v)
  rows : E.rows.length = rs.length + 2
  col : E.col.length = n + 1
theorem Beg.phase1(h:Beg n rs c T)(hL:LpOk n rs c)(hw:0≤wrS T rs.length):
    ∃E bs s k,RunOk (rs.length+1) E s k (pvt (insT T ((n+rs.length:Nat):Int)) (wrS T rs.length).toNat T.col.length)∧End1 n rs c T E bs:=by
  have hP:=(h.ph1 hL hw).1;have hl:=h.len
  have hcl:T.col.length=n:=by rw [h.col,X0]
  have hrl:(pvt (insT T ((n+rs.length:Nat):Int)) (wrS T rs.length).toNat T.col.length).rows.length=rs.length+2:=by
    rw [Xe];show (insP _ _ _ _).length=_;rw [insP_len];simp [hl]
  have hil:(pvt (insT T ((n+rs.length:Nat):Int)) (wrS T rs.length).toNat T.col.length).col.length=n+1:=by
    rw [Z8];show (T.col++ [_]).length=_;simp [hcl]
  obtain ⟨k,E,s,bs,hR,hG,hE,hr,hj⟩:=hP.good.ends (lp_sys hL) (g:=rs.length+1) (by omega) (by rw [hrl];omega) (hP.small (by omega));have hl2:=hR.lens;have hPh:Ph n rs c (n+rs.length+1) E bs:=⟨hG,by rw [hj _ (Nat.le_refl _)];exact hP.z,by rw [hj _ (by omega)];exact hP.w⟩;refine ⟨E,bs,s,k,hR,hPh,?_,by rw [hl2.1,hrl],by rw [hl2.2.2,hil]⟩;rcases hE with ⟨_,h1⟩|⟨e,_,he,h1,h2⟩
  · exact h1
  · exfalso;have hq:=hPh.w_eq (Nat.le_refl _) (colA_V (n:=n) (rs:=rs) (c:=c) (E.col.getD e 0).toNat);have hd:=den_pos hPh.bas.ne;have hlt:=hG.cov.col e he;have hnn:=hG.view.colv e
    have hx:0≤colA n rs c (E.col.getD e 0).toNat (rs.length+1):=by
      by_cases h3:(E.col.getD e 0).toNat<n
      · rw [Y0 h3,if_neg (by omega),if_neg (by omega)];exact Int.le_refl _
      · by_cases h4:(E.col.getD e 0).toNat=n+rs.length
        · rw [h4,colA_art_w];decide
        · obtain ⟨i,hi⟩:∃i,(E.col.getD e 0).toNat=n+i:=⟨(E.col.getD e 0).toNat - n,by omega⟩;rw [hi,Zn (by omega)];show 0≤Go.Det.unit i _
          unfold Go.Det.unit;split <;>decide
    have h5:=Int.mul_nonneg (Int.le_of_lt hd) hx
    have h6:sm (fun k=>if bs.getD k 0=n+rs.length then tt (colA n rs c) bs k (colA n rs c (E.col.getD e 0).toNat) else 0) rs.length≤sm (fun _=>0) rs.length:=sm_le fun k hk=>by
      split
      · exact h2 k hk
      · exact Int.le_refl _
    rw [ZV (f:=fun _=>0) fun _ _=>rfl] at h6;omega
end
theorem erase_getD{l:List Int}{c j:Nat}:(l.eraseIdx c).getD j 0=if j<c then l.getD j 0 else l.getD (j+1) 0:=by
  simp only [List.getD_eq_getElem?_getD,List.getElem?_eraseIdx]
  split <;>rfl
section
variable {n : Nat} {rs : List Rw} {c : List Int} {W : Nat} {T E : Tv} {bs : List Nat}
theorem Ph.row_ne(h:Ph n rs c (n+rs.length+1) E bs){r:Nat}(hr:r<rs.length)(hb:bs.getD r 0=n+rs.length):∃j,j<E.col.length∧E.at r j≠0:=by
  refine Classical.byContradiction fun hno=> ?_
  have hz:∀j,j<E.col.length→E.at r j=0:=fun j hj=>Classical.byContradiction fun h1=>hno ⟨j,hj,h1⟩
  have hV:=h.good.view;have hB:=h.bas
  have hrE:r<E.rows.length:=by have:=hV.rm;omega
  have hu:∀k,k<rs.length+2→tt (colA n rs c) bs r (Go.Det.unit k)=0:=fun k hk=>by
    by_cases h1:k<rs.length
    · rw [←Zn (n:=n) (c:=c) h1];rcases h.good.cov.all (n+k) (by omega) with ⟨i,hi,he⟩|⟨j,hj,he⟩
      · rw [←he];exact Yd hB.len (by omega) (by omega) (fun e=>by rw [e,hb] at he;omega)
      · have:=hV.num r hrE j hj;rw [hz j hj,he,Int.toNat_natCast] at this;exact this.symm
    · by_cases h2:k=rs.length
      · rw [h2,←colA_z (n:=n) (c:=c),←h.z];exact Yd hB.len (by omega) (by omega) (by omega)
      · rw [show k=rs.length+1 by omega,←colA_w (n:=n) (c:=c),←h.w];exact Yd hB.len (by omega) (by omega) (by omega)
  have e:colA n rs c (n+rs.length)=comb (colA n rs c (n+rs.length)) Go.Det.unit (rs.length+2):=by
    funext j
    unfold comb;by_cases hj:j<rs.length+2
    · rw [Yj hj fun k _ hk=>by simp [Go.Det.unit,Ne.symm hk]];simp [Go.Det.unit]
    · rw [colA_V _ j (by omega),ZV fun k hk=>by rw [show Go.Det.unit k j=0 from if_neg (by omega),Int.mul_zero]]
  have h3:tt (colA n rs c) bs r (colA n rs c (n+rs.length))=0:=by
    have e2:dT (colA n rs c) bs r (colA n rs c (n+rs.length))=sm (fun k=>colA n rs c (n+rs.length) k*dT (colA n rs c) bs r (Go.Det.unit k)) (rs.length+2):=by
      unfold dT
      conv=>lhs;rw [e]
      exact Yw (by rw [Zu,hB.len];omega) _ _ _
    unfold tt;rw [e2,←Yz]
    refine ZV fun k hk=> ?_
    have:=hu k hk;unfold tt at this
    have:(dD (colA n rs c) bs).sign*(colA n rs c (n+rs.length) k*dT (colA n rs c) bs r (Go.Det.unit k))=colA n rs c (n+rs.length) k*((dD (colA n rs c) bs).sign*dT (colA n rs c) bs r (Go.Det.unit k)):=by grind
    rw [this,‹(dD (colA n rs c) bs).sign*dT (colA n rs c) bs r (Go.Det.unit k)=0›,Int.mul_zero]
  rw [←hb,tt_own hB.len (by omega)] at h3;have:=den_pos hB.ne;omega
theorem Ph.swap(h:Ph n rs c W T bs)(hL:LpOk n rs c){r s:Nat}(hr:r<rs.length)(hs:s<T.col.length)(hp:T.at r s≠0)(h0:tt (colA n rs c) bs r (rhsQ rs)=0):Ph n rs c W (pvt T r s) (bs.set r (T.col.getD s 0).toNat):=by
  have hS:=lp_sys hL;have hV:=h.good.view;have hB:=h.bas
  have hrT:r<T.rows.length:=by have:=hV.rm;omega
  have hp' :=hp;rw [hV.num r hrT s hs] at hp';have hd:=den_pos hB.ne;refine ⟨⟨hV.pvt hS.hq hS.hA hr hs hp,h.good.cov.pvt hV hr hs,fun i hi=> ?_,by rw [Xe];exact h.good.hl,by rw [Xe];exact h.good.few,by rw [Z8];exact h.good.thin⟩,?_,?_⟩
  · have hsg:=hB.gsgn hp';by_cases hir:i=r
    · subst hir;unfold tt at h0 ⊢;rw [piv_r];rcases Int.mul_eq_zero.1 h0 with h1|h1
      · exact absurd h1 (by have:=sgn_sq hB.ne;intro h2;rw [h2] at this;simp at this)
      · rw [h1,Int.mul_zero];exact Int.le_refl _
    · have hg:=hB.gen (s:=(T.col.getD s 0).toNat) (show r<rs.length+2 by omega) (show i<rs.length+2 by omega) hir hS.hq;rw [h0,Int.zero_mul,Int.sub_zero] at hg;have hf:=h.good.feas i hi
      have e:Go.Det.den (colA n rs c) bs*tt (colA n rs c) (bs.set r (T.col.getD s 0).toNat) i (rhsQ rs)=(tt (colA n rs c) bs r (colA n rs c (T.col.getD s 0).toNat)).natAbs*tt (colA n rs c) bs i (rhsQ rs):=by
        unfold tt at hg hsg ⊢;rcases hsg with ⟨h1,h2⟩|⟨h1,h2⟩
        · rw [h1,hg];congr 1;omega
        · rw [h1,Int.neg_mul,Int.mul_neg,hg,←Int.neg_mul];congr 1;omega
      have h3:0≤((tt (colA n rs c) bs r (colA n rs c (T.col.getD s 0).toNat)).natAbs:Int)*tt (colA n rs c) bs i (rhsQ rs):=Int.mul_nonneg (by omega) hf;rw [←e] at h3;rcases (show tt (colA n rs c) (bs.set r (T.col.getD s 0).toNat) i (rhsQ rs)<0∨0≤tt (colA n rs c) (bs.set r (T.col.getD s 0).toNat) i (rhsQ rs) by omega) with h4|h4
      · have:=Int.mul_neg_of_pos_of_neg hd h4;omega
      · exact h4
  · rw [getD_set' (by rw [hB.len];omega),if_neg (by omega)];exact h.z
  · rw [getD_set' (by rw [hB.len];omega),if_neg (by omega)];exact h.w
theorem Ph.cut(h:Ph n rs c (n+rs.length+1) T bs)(hrl:T.rows.length=rs.length+2)(hna:∀i,i<rs.length→bs.getD i 0≠n+rs.length){cx:Nat}(hc:cx<T.col.length)(hce:T.col.getD cx 0=((n+rs.length:Nat):Int)):
    Ph n rs c (n+rs.length) {T with rows:=delP cx (T.rows.take (rs.length+1)) (rs.length+1),col:=T.col.eraseIdx cx,hl:=T.hl.take (rs.length+1)} bs:=by
  have hV:=h.good.view;have hC:=h.good.cov
  have hcl:(T.col.eraseIdx cx).length=T.col.length - 1:=by rw [List.length_eraseIdx,if_pos hc]
  have htl:(T.rows.take (rs.length+1)).length=rs.length+1:=by rw [List.length_take];omega
  have hrow:∀i,i<rs.length+1→(delP cx (T.rows.take (rs.length+1)) (rs.length+1)).getD i []=(T.rows.getD i []).eraseIdx cx:=fun i hi=>by
    unfold delP;rw [ZW _ _ _ (by omega),if_pos hi,List.getD_eq_getElem?_getD,List.getElem?_take,if_pos hi,←List.getD_eq_getElem?_getD]
  have hdl:(delP cx (T.rows.take (rs.length+1)) (rs.length+1)).length=rs.length+1:=by rw [delP_len,htl]
  have pl:∀j,(T.col.eraseIdx cx).getD j 0=T.col.getD (if j<cx then j else j+1) 0:=fun j=>by rw [erase_getD];split <;>rfl
  refine ⟨⟨⟨hV.bas,hV.den,fun i hi j hj=> ?_,fun i hi=> ?_,hV.basl,hV.basv,fun j=> ?_,fun i hi=> ?_,by show _≤(delP _ _ _).length;omega,by show (delP _ _ _).length≤_;omega⟩,⟨fun v hv=> ?_,fun j hj=> ?_,fun i hi=> ?_,fun j i hj hi=> ?_,fun j k hj hk hjk=> ?_⟩,h.good.feas,?_,by show (delP _ _ _).length≤_;have:=h.good.few;omega,by show (T.col.eraseIdx cx).length≤_;have:=h.good.thin;omega⟩,h.z,h.w⟩
  · show ((delP cx (T.rows.take (rs.length+1)) (rs.length+1)).getD i []).getD j 0=tt _ _ _ (colA n rs c ((T.col.eraseIdx cx).getD j 0).toNat)
    have hi' :i<rs.length+1:=by rw [←hdl];exact hi
    have hj' :j<T.col.length - 1:=by rw [←hcl];exact hj
    rw [hrow i hi',pl,erase_getD];have:=hV.num i (by omega) (if j<cx then j else j+1) (by split <;>omega);rw [←this];unfold Tv.at
    split <;>rfl
  · show ((delP cx (T.rows.take (rs.length+1)) (rs.length+1)).getD i []).getD (T.col.eraseIdx cx).length 0=_
    have hi' :i<rs.length+1:=by rw [←hdl];exact hi
    rw [hrow i hi',hcl,erase_getD,if_neg (by omega),show T.col.length - 1+1=T.col.length by omega];exact hV.rhs i (by omega)
  · show 0≤(T.col.eraseIdx cx).getD j 0;rw [pl];exact hV.colv _
  · show ((delP cx (T.rows.take (rs.length+1)) (rs.length+1)).getD i []).length=(T.col.eraseIdx cx).length+1
    have hi' :i<rs.length+1:=by rw [←hdl];exact hi
    have:=hV.row i (by omega);rw [hrow i hi',hcl,List.length_eraseIdx,if_pos (by omega)];omega
  · rcases hC.all v (by omega) with h1|⟨j,hj,he⟩
    · exact .inl h1
    · have hjc:j≠cx:=fun e=>by rw [e,hce] at he;omega
      by_cases h2:j<cx
      · exact .inr ⟨j,by show j<(T.col.eraseIdx cx).length;omega,by show (T.col.eraseIdx cx).getD j 0=_;rw [pl,if_pos h2];exact he⟩
      · exact .inr ⟨j - 1,by show _<(T.col.eraseIdx cx).length;omega,by show (T.col.eraseIdx cx).getD _ 0=_;rw [pl,if_neg (by omega),show j - 1+1=j by omega];exact he⟩
  · have hj' :j<T.col.length - 1:=by rw [←hcl];exact hj
    show (T.col.eraseIdx cx).getD j 0<_;rw [pl];have h1:=hC.col (if j<cx then j else j+1) (by split <;>omega);have h2:=hC.inj (if j<cx then j else j+1) cx (by split <;>omega) hc (by split <;>omega);rw [hce] at h2;omega
  · have h1:=hC.bas i hi;have h2:=hna i hi;omega
  · have hj' :j<T.col.length - 1:=by rw [←hcl];exact hj
    show (T.col.eraseIdx cx).getD j 0≠_;rw [pl];exact hC.dis _ i (by split <;>omega) hi
  · have hj' :j<T.col.length - 1:=by rw [←hcl];exact hj
    have hk' :k<T.col.length - 1:=by rw [←hcl];exact hk
    show (T.col.eraseIdx cx).getD j 0≠(T.col.eraseIdx cx).getD k 0;rw [pl,pl];exact hC.inj _ _ (by split <;>omega) (by split <;>omega) (by split <;>split <;>omega)
  · show (T.hl.take (rs.length+1)).length=(delP _ _ _).length;rw [hdl,List.length_take,h.good.hl];omega
inductive Start (n : Nat) (rs : List Rw) (c : List Int) (T E : Tv) : Prop where
  | keep (hw : wrS T rs.length < 0) (h : Ph n rs c (n + rs.length) T (bs0 n rs.length)) (hc : T.col.length = n)
  | none (bs : List Nat) (hw : 0 ≤ wrS T rs.length) (h : End1 n rs c T E bs) (hv : tt (colA n rs c) bs (rs.length + 1) (rhsQ rs) < 0) (ha : E.at (rs.length + 1) (n + 1) < 0)
  | some (bs : List Nat) (hw : 0 ≤ wrS T rs.length) (ha : ¬ E.at (rs.length + 1) (n + 1) < 0) (h : Ph n rs c (n + rs.length) (stE3 E rs.length n ((n + rs.length : Nat) : Int)) bs) (hc : (stE3 E rs.length n ((n + rs.length : Nat) : Int)).col.length = n) (hr : (stE3 E rs.length n ((n + rs.length : Nat) : Int)).rows.length = rs.length + 1)
theorem Beg.start(h:Beg n rs c T)(hL:LpOk n rs c):∃E,(0≤wrS T rs.length→StartRun T ((n+rs.length:Nat):Int) E)∧Start n rs c T E:=by
  have hcl:T.col.length=n:=by rw [h.col,X0]
  have hbl:T.bas.length=rs.length:=by rw [h.bas,X0]
  by_cases hw:wrS T rs.length<0
  · exact ⟨T,fun h1=>by omega, .keep hw (h.ph hL hw) hcl⟩
  have hw' :0≤wrS T rs.length:=by omega
  obtain ⟨E,bs,s,k,hR,hE⟩:=h.phase1 hL hw';have hP:=hE.ph;have hV:=hP.good.view;have hC:=hP.good.cov;have hB:=hP.bas
  have hval:E.at (rs.length+1) (n+1)=tt (colA n rs c) bs (rs.length+1) (rhsQ rs):=by rw [←hE.col];exact hV.rhs _ (by rw [hE.rows];omega)
  have hebl:E.bas.length=rs.length:=hV.basl;by_cases hv:E.at (rs.length+1) (n+1)<0
  · refine ⟨E,fun _=>⟨by rw [hbl];exact hw',(h.ph1 hL hw').2,⟨s,k,by rw [hbl];exact hR⟩,?_,?_,?_⟩, .none bs hw' hE (by rw [←hval];exact hv) hv⟩
    all_goals (intro h1;rw [hbl,hcl] at h1;exact absurd hv h1)
  have hq0:=hP.w_eq (Nat.le_refl _) (rhsQ_V (rs:=rs));have hq1:rhsQ rs (rs.length+1)=0:=if_neg (by omega);rw [hq1,Int.mul_zero] at hq0
  have hz:=sm_zero_of (f:=fun k=>if bs.getD k 0=n+rs.length then tt (colA n rs c) bs k (rhsQ rs) else 0) (m:=rs.length) (fun k hk=>by
    show 0≤(if bs.getD k 0=n+rs.length then tt (colA n rs c) bs k (rhsQ rs) else 0);split
    · exact hP.good.feas k hk
    · exact Int.le_refl _) (by omega)
  have hr2:(0≤fIx E.bas ((n+rs.length:Nat):Int)→0≤nzC E n ((n+rs.length:Nat):Int))∧∃bs2,Ph n rs c (n+rs.length+1) (stE2 E n ((n+rs.length:Nat):Int)) bs2∧∀i,i<rs.length→bs2.getD i 0≠n+rs.length:=by
    by_cases hf:fIx E.bas ((n+rs.length:Nat):Int)<0
    · refine ⟨fun h1=>by omega,bs,by unfold stE2;rw [if_pos hf];exact hP,fun i hi he=> ?_⟩;have:0≤fIx E.bas ((n+rs.length:Nat):Int):=idxI_nn (k:=i) 0 (by omega) (by rw [hV.basv i hi,he];simp);omega
    · have hg:=idxI_get (p:=fun x=>decide (((n+rs.length:Nat):Int)=x)) (xs:=E.bas) 0 (show 0≤fIx E.bas ((n+rs.length:Nat):Int) by omega);obtain ⟨r,hr⟩:∃r:Nat,fIx E.bas ((n+rs.length:Nat):Int)=r:=⟨(fIx E.bas ((n+rs.length:Nat):Int)).toNat,by omega⟩;rw [show idxI (fun x=>decide (((n+rs.length:Nat):Int)=x)) E.bas=fIx E.bas ((n+rs.length:Nat):Int) from rfl,hr] at hg;simp only [Int.toNat_natCast,decide_eq_true_eq] at hg
      have hrm:r<rs.length:=by omega
      have hbr:bs.getD r 0=n+rs.length:=by have:=hV.basv r hrm;omega
      obtain ⟨j0,hj0,hj1⟩:=hP.row_ne hrm hbr;have hrl:=hV.row r (by rw [hE.rows];omega);rw [hE.col] at hrl
      have hnz:0≤nzC E n ((n+rs.length:Nat):Int):=by
        unfold nzC;rw [hr,Int.toNat_natCast]
        refine idxI_nn (k:=j0) 0 (by rw [List.length_take];have:=hE.col;omega) ?_
        have:((E.rows.getD r []).take (n+1)).getD j0 0=E.at r j0:=by
          rw [List.getD_eq_getElem?_getD,List.getElem?_take,if_pos (by have:=hE.col;omega),←List.getD_eq_getElem?_getD]
        rw [this];exact decide_eq_true hj1
      refine ⟨fun _=>hnz,?_⟩;have hng:=idxI_get (p:=fun x=>decide (x≠0)) (xs:=(E.rows.getD (fIx E.bas ((n+rs.length:Nat):Int)).toNat []).take (n+1)) 0 hnz;rw [show idxI (fun x=>decide (x≠0)) ((E.rows.getD (fIx E.bas ((n+rs.length:Nat):Int)).toNat []).take (n+1))=nzC E n ((n+rs.length:Nat):Int) from rfl,hr] at hng;obtain ⟨s2,hs2⟩:∃s2:Nat,nzC E n ((n+rs.length:Nat):Int)=s2:=⟨(nzC E n ((n+rs.length:Nat):Int)).toNat,by omega⟩;rw [hs2] at hng;simp only [Int.toNat_natCast,decide_eq_true_eq,List.length_take] at hng
      have hs2n:s2<n+1:=by omega
      have hat:((E.rows.getD r []).take (n+1)).getD s2 0=E.at r s2:=by
        rw [List.getD_eq_getElem?_getD,List.getElem?_take,if_pos hs2n,←List.getD_eq_getElem?_getD]
      rw [hat] at hng;have h0:(if bs.getD r 0=n+rs.length then tt (colA n rs c) bs r (rhsQ rs) else 0)=0:=hz r hrm;rw [if_pos hbr] at h0;have hsw:=hP.swap hL hrm (s:=s2) (by rw [hE.col];exact hs2n) hng.2 h0;refine ⟨_,by unfold stE2;rw [if_neg hf,hr,hs2,Int.toNat_natCast,Int.toNat_natCast];exact hsw,fun i hi he=> ?_⟩;rw [getD_set' (by rw [hB.len];omega)] at he;by_cases hir:r=i
      · rw [if_pos hir] at he;have:=hC.dis s2 r (by rw [hE.col];exact hs2n) hrm;have h5:=hV.colv s2;rw [hbr] at this;omega
      · rw [if_neg hir] at he;exact hB.ne (dup_zero (i:=r) (k:=i) (by rw [hB.len];omega) (by rw [hB.len];omega) (Ne.symm hir) (by rw [hbr,he]))
  obtain ⟨hnz,bs2,hP2,hna⟩:=hr2;have hV2:=hP2.good.view
  have e2r:(stE2 E n ((n+rs.length:Nat):Int)).rows.length=rs.length+2:=by
    unfold stE2;split
    · exact hE.rows
    · rw [Xe];exact hE.rows
  have e2c:(stE2 E n ((n+rs.length:Nat):Int)).col.length=n+1:=by
    unfold stE2;split
    · exact hE.col
    · rw [Z8];exact hE.col
  have hout:0≤fIx (stE2 E n ((n+rs.length:Nat):Int)).col ((n+rs.length:Nat):Int):=by
    rcases hP2.good.cov.all (n+rs.length) (by omega) with ⟨i,hi,he⟩|⟨j,hj,he⟩
    · exact absurd he (hna i hi)
    · exact idxI_nn (k:=j) 0 hj (by rw [he];simp)
  have hfit:Fit (stE2 E n ((n+rs.length:Nat):Int)):=⟨hP2.good.hl,hV2.row,by rw [hV2.basl];exact hV2.rm,hP2.good.few,hP2.good.thin⟩;refine ⟨E,fun _=>⟨by rw [hbl];exact hw',(h.ph1 hL hw').2,⟨s,k,by rw [hbl];exact hR⟩,fun _=>by rw [hcl];exact hnz,fun _=>by rw [hcl];exact hfit,fun _=>by rw [hcl];exact hout⟩,?_⟩;have hg:=idxI_get (p:=fun x=>decide (((n+rs.length:Nat):Int)=x)) (xs:=(stE2 E n ((n+rs.length:Nat):Int)).col) 0 hout;rw [show idxI (fun x=>decide (((n+rs.length:Nat):Int)=x)) (stE2 E n ((n+rs.length:Nat):Int)).col=fIx (stE2 E n ((n+rs.length:Nat):Int)).col ((n+rs.length:Nat):Int) from rfl] at hg;have hcut:=hP2.cut e2r hna hg.1 (of_decide_eq_true hg.2).symm
  refine .some bs2 hw' hv hcut ?_ ?_
  · show ((stE2 E n ((n+rs.length:Nat):Int)).col.eraseIdx _).length=n;rw [List.length_eraseIdx,if_pos hg.1,e2c];rfl
  · show (delP _ _ _).length=_;rw [delP_len,List.length_take,e2r];omega
end
theorem sm_app(f:Nat→Int)(n:Nat):∀m,sm f (n+m)=sm f n+sm (fun k=>f (n+k)) m
  |0=>by simp [sm]
  |m+1=>by
    rw [show n+(m+1)=(n+m)+1 by omega]
    simp only [sm]
    rw [sm_app f n m];omega
theorem sm_neg(f:Nat→Int)(m:Nat):sm (fun k=> -(f k)) m= -(sm f m):=by
  have:=Yz (-1) f m;rw [←Xa (f:=fun k=> -(f k)) (g:=fun k=> -1*f k) fun k _=>by omega] at this;omega
def ca (rs : List Rw) (i j : Nat) : Int := (rs.getD i rw0).cs.getD j 0
def cb (rs : List Rw) (i : Nat) : Int := (rs.getD i rw0).b
section
variable {n : Nat} {rs : List Rw} {c : List Int} {W : Nat} {T : Tv} {bs : List Nat}
def vx (n : Nat) (rs : List Rw) (c : List Int) (bs : List Nat) (x : Vec) (v : Nat) : Int := sm (fun k => if bs.getD k 0 = v then tt (colA n rs c) bs k x else 0) rs.length
theorem vx_row(h:Ph n rs c W T bs){k:Nat}(hk:k<rs.length)(x:Vec):vx n rs c bs x (bs.getD k 0)=tt (colA n rs c) bs k x:=by
  unfold vx;rw [Yj hk fun j hj hjk=> ?_,if_pos J]
  exact if_neg fun e=>h.bas.ne (dup_zero (i:=k) (k:=j) (by rw [h.bas.len];omega) (by rw [h.bas.len];omega) hjk e.symm)
theorem vx_out{v:Nat}(hv:∀k,k<rs.length→bs.getD k 0≠v)(x:Vec):vx n rs c bs x v=0:=ZV fun k hk=>if_neg (hv k hk)
theorem vx_nn(x:Vec)(hx:∀k,k<rs.length→0≤tt (colA n rs c) bs k x)(v:Nat):0≤vx n rs c bs x v:=sm_nonneg fun k hk=>by
  split
  · exact hx k hk
  · exact Int.le_refl _
theorem Ph.rowsum(h:Ph n rs c (n+rs.length) T bs){x:Vec}(hx:Vok (rs.length+2) x){i:Nat}(hi:i≤rs.length):
    Go.Det.den (colA n rs c) bs*x i=sm (fun v=>colA n rs c v i*vx n rs c bs x v) (n+rs.length)+(if i=rs.length then tt (colA n rs c) bs rs.length x else 0):=by
  have e1:sm (fun v=>colA n rs c v i*vx n rs c bs x v) (n+rs.length)=sm (fun k=>tt (colA n rs c) bs k x*colA n rs c (bs.getD k 0) i) rs.length:=by
    have e2:∀v,colA n rs c v i*vx n rs c bs x v=sm (fun k=>colA n rs c v i*(if bs.getD k 0=v then tt (colA n rs c) bs k x else 0)) rs.length:=fun v=>by unfold vx;rw [Yz]
    rw [Xa (g:=fun v=>sm (fun k=>colA n rs c v i*(if bs.getD k 0=v then tt (colA n rs c) bs k x else 0)) rs.length) fun v _=>e2 v];rw [sm_swap (fun k v=>colA n rs c v i*(if bs.getD k 0=v then tt (colA n rs c) bs k x else 0)) rs.length (n+rs.length)]
    refine Xa fun k hk=> ?_
    have hb:=h.good.cov.bas k hk;rw [Yj hb fun v _ hv=>by rw [if_neg (Ne.symm hv),Int.mul_zero],if_pos J,Int.mul_comm]
  rw [h.comp hx,e1];simp only [sm];rw [h.z,h.w,colA_z,colA_w];have u2:Go.Det.unit (rs.length+1) i=0:=if_neg (by omega);rw [u2,Int.mul_zero,Int.add_zero];by_cases hi2:i=rs.length
  · rw [if_pos hi2,hi2,show Go.Det.unit rs.length rs.length=1 from if_pos J,Int.mul_one]
  · rw [if_neg hi2,show Go.Det.unit rs.length i=0 from if_neg hi2,Int.mul_zero]
theorem low_sum(i:Nat)(hi:i<rs.length)(y:Nat→Int):sm (fun v=>colA n rs c v i*y v) (n+rs.length)=sm (fun j=>ca rs i j*y j) n+y (n+i):=by
  rw [sm_app]
  congr 1
  · exact Xa fun v hv=>by rw [Y0 hv,if_pos hi];rfl
  · rw [Yj hi fun k hk hki=>by rw [Zn hk,show Go.Det.unit k i=0 from if_neg (Ne.symm hki),Int.zero_mul],Zn hi,show Go.Det.unit i i=1 from if_pos J,Int.one_mul]
theorem goal_sum(y:Nat→Int):sm (fun v=>colA n rs c v rs.length*y v) (n+rs.length)= -(sm (fun j=>c.getD j 0*y j) n):=by
  rw [sm_app,ZV (f:=fun k=>colA n rs c (n+k) rs.length*y (n+k)) fun k hk=>by rw [Zn hk,show Go.Det.unit k rs.length=0 from if_neg (by omega),Int.zero_mul],Int.add_zero,←sm_neg]
  exact Xa fun v hv=>by rw [Y0 hv,if_neg (by omega),if_pos J];grind
structure Feas (n : Nat) (rs : List Rw) (D : Int) (X : Nat → Int) : Prop where
  den : 0 < D
  nn : ∀ v, v < n → 0 ≤ X v
  row : ∀ i, i < rs.length → sm (fun j => ca rs i j * X j) n ≤ D * cb rs i
theorem Ph.point(h:Ph n rs c (n+rs.length) T bs):Feas n rs (Go.Det.den (colA n rs c) bs) (vx n rs c bs (rhsQ rs))∧sm (fun j=>c.getD j 0*vx n rs c bs (rhsQ rs) j) n=tt (colA n rs c) bs rs.length (rhsQ rs):=by
  have hnn:=vx_nn (n:=n) (rs:=rs) (c:=c) (bs:=bs) (rhsQ rs) h.good.feas;refine ⟨⟨den_pos h.bas.ne,fun v _=>hnn v,fun i hi=> ?_⟩,?_⟩
  · have h1:=h.rowsum (rhsQ_V (rs:=rs)) (i:=i) (by omega);rw [low_sum i hi,if_neg (by omega)] at h1;have h2:=hnn (n+i);have h3:rhsQ rs i=cb rs i:=if_pos hi;rw [h3] at h1;omega
  · have h1:=h.rowsum (rhsQ_V (rs:=rs)) (i:=rs.length) (Nat.le_refl _);rw [goal_sum,if_pos J,show rhsQ rs rs.length=0 from if_neg (by omega),Int.mul_zero] at h1;omega
theorem Ph.func(h:Ph n rs c W T bs){g:Nat}(hg:g<rs.length+2){x:Vec}(hx:Vok (rs.length+2) x):tt (colA n rs c) bs g x=sm (fun k=>x k*tt (colA n rs c) bs g (Go.Det.unit k)) (rs.length+2):=by
  have e:x=comb x Go.Det.unit (rs.length+2):=by
    funext j
    unfold comb;by_cases hj:j<rs.length+2
    · rw [Yj hj fun k _ hk=>by simp [Go.Det.unit,Ne.symm hk]];simp [Go.Det.unit]
    · rw [hx j (by omega),ZV fun k hk=>by rw [show Go.Det.unit k j=0 from if_neg (by omega),Int.mul_zero]]
  have e2:dT (colA n rs c) bs g x=sm (fun k=>x k*dT (colA n rs c) bs g (Go.Det.unit k)) (rs.length+2):=by
    unfold dT
    conv=>lhs;rw [e]
    exact Yw (by rw [Zu,h.bas.len];omega) _ _ _
  unfold tt;rw [e2,←Yz]
  exact Xa fun k _=>by grind
def yx (n : Nat) (rs : List Rw) (c : List Int) (bs : List Nat) (g i : Nat) : Int := tt (colA n rs c) bs g (colA n rs c (n + i))
theorem Ph.dual_sum(h:Ph n rs c W T bs){g:Nat}(hg:g=rs.length∨g=rs.length+1){x:Vec}(hx:Vok (rs.length+2) x)(hx1:x (rs.length+1)=0):
    tt (colA n rs c) bs g x=sm (fun i=>x i*yx n rs c bs g i) rs.length+(if g=rs.length then x rs.length*Go.Det.den (colA n rs c) bs else 0):=by
  rw [h.func (by omega) hx];simp only [sm];rw [hx1,Int.zero_mul,Int.add_zero]
  congr 1
  · exact Xa fun k hk=>by rw [←Zn (n:=n) (c:=c) hk];rfl
  · rw [←colA_z (n:=n) (c:=c),←h.z];rcases hg with rfl|rfl
    · rw [if_pos J,tt_own h.bas.len (by omega)]
    · rw [if_neg (by omega),Yd h.bas.len (by omega) (by omega) (by omega),Int.mul_zero]
theorem colA_w0{v:Nat}(hv:v<n+rs.length):colA n rs c v (rs.length+1)=0:=by
  by_cases h1:v<n
  · rw [Y0 h1,if_neg (by omega),if_neg (by omega)]
  · obtain ⟨i,rfl⟩:∃i,v=n+i:=⟨v - n,by omega⟩;rw [Zn (by omega)];exact if_neg (by omega)
structure Dual (n : Nat) (rs : List Rw) (c : List Int) (D : Int) (Y : Nat → Int) : Prop where
  den : 0 < D
  nn : ∀ i, i < rs.length → 0 ≤ Y i
  col : ∀ j, j < n → D * c.getD j 0 ≤ sm (fun i => ca rs i j * Y i) rs.length
theorem Ph.dual(h:Ph n rs c W T bs)(hc:∀v,v<n+rs.length→0≤tt (colA n rs c) bs rs.length (colA n rs c v)):
    Dual n rs c (Go.Det.den (colA n rs c) bs) (yx n rs c bs rs.length)∧sm (fun i=>cb rs i*yx n rs c bs rs.length i) rs.length=tt (colA n rs c) bs rs.length (rhsQ rs):=by
  refine ⟨⟨den_pos h.bas.ne,fun i hi=>hc (n+i) (by omega),fun j hj=> ?_⟩,?_⟩
  · have h1:=h.dual_sum (.inl J) (colA_V (n:=n) (rs:=rs) (c:=c) j) (colA_w0 (by omega));have h2:=hc j (by omega);rw [h1,if_pos J,Y0 hj,if_neg (by omega),if_pos J] at h2
    have e:sm (fun i=>colA n rs c j i*yx n rs c bs rs.length i) rs.length=sm (fun i=>ca rs i j*yx n rs c bs rs.length i) rs.length:=Xa fun i hi=>by rw [Y0 hj,if_pos hi];rfl
    rw [e] at h2
    have: -c.getD j 0*Go.Det.den (colA n rs c) bs= -(Go.Det.den (colA n rs c) bs*c.getD j 0):=by grind
    omega
  · have h1:=h.dual_sum (.inl J) (rhsQ_V (rs:=rs)) (show rhsQ rs (rs.length+1)=0 from if_neg (by omega));rw [h1,if_pos J,show rhsQ rs rs.length=0 from if_neg (by omega),Int.zero_mul,Int.add_zero]
    exact Xa fun i hi=>by rw [show rhsQ rs i=cb rs i from if_pos hi]
structure Refu (n : Nat) (rs : List Rw) (D : Int) (Y : Nat → Int) : Prop where
  den : 0 < D
  nn : ∀ i, i < rs.length → 0 ≤ Y i
  col : ∀ j, j < n → 0 ≤ sm (fun i => ca rs i j * Y i) rs.length
  neg : sm (fun i => cb rs i * Y i) rs.length < 0
theorem End1.refu{E:Tv}(h:End1 n rs c T E bs)(hv:tt (colA n rs c) bs (rs.length+1) (rhsQ rs)<0):Refu n rs (Go.Det.den (colA n rs c) bs) (yx n rs c bs (rs.length+1)):=by
  refine ⟨den_pos h.ph.bas.ne,fun i hi=>h.cover (n+i) (by omega),fun j hj=> ?_,?_⟩
  · have h1:=h.ph.dual_sum (.inr J) (colA_V (n:=n) (rs:=rs) (c:=c) j) (colA_w0 (by omega));have h2:=h.cover j (by omega);rw [h1,if_neg (by omega),Int.add_zero] at h2;rw [Xa (g:=fun i=>ca rs i j*yx n rs c bs (rs.length+1) i) fun i hi=>by rw [Y0 hj,if_pos hi];rfl] at h2;exact h2
  · have h1:=h.ph.dual_sum (.inr J) (rhsQ_V (rs:=rs)) (show rhsQ rs (rs.length+1)=0 from if_neg (by omega));rw [if_neg (by omega),Int.add_zero] at h1;rw [h1,Xa (g:=fun i=>cb rs i*yx n rs c bs (rs.length+1) i) fun i hi=>by rw [show rhsQ rs i=cb rs i from if_pos hi]] at hv;exact hv
structure Ray (n : Nat) (rs : List Rw) (c : List Int) (D : Int) (Z : Nat → Int) : Prop where
  den : 0 < D
  nn : ∀ v, v < n → 0 ≤ Z v
  row : ∀ i, i < rs.length → sm (fun j => ca rs i j * Z j) n ≤ 0
  goal : 0 < sm (fun j => c.getD j 0 * Z j) n
def zx (n : Nat) (rs : List Rw) (c : List Int) (bs : List Nat) (s v : Nat) : Int := (if v = s then Go.Det.den (colA n rs c) bs else 0) - vx n rs c bs (colA n rs c s) v
theorem Ph.ray(h:Ph n rs c (n+rs.length) T bs){s:Nat}(hs:s<n+rs.length)(hb:∀k,k<rs.length→bs.getD k 0≠s)(hg:tt (colA n rs c) bs rs.length (colA n rs c s)<0)(hl:∀k,k<rs.length→tt (colA n rs c) bs k (colA n rs c s)≤0):
    Ray n rs c (Go.Det.den (colA n rs c) bs) (zx n rs c bs s):=by
  have hd:=den_pos h.bas.ne
  have hv0:∀v,vx n rs c bs (colA n rs c s) v≤0:=fun v=>by
    have:sm (fun k=>if bs.getD k 0=v then tt (colA n rs c) bs k (colA n rs c s) else 0) rs.length≤sm (fun _=>0) rs.length:=sm_le fun k hk=>by
      split
      · exact hl k hk
      · exact Int.le_refl _
    rw [ZV (f:=fun _=>0) fun _ _=>rfl] at this;exact this
  have hnn:∀v,0≤zx n rs c bs s v:=fun v=>by
    unfold zx;have:=hv0 v
    split <;>omega
  have hsum:∀i,sm (fun v=>colA n rs c v i*zx n rs c bs s v) (n+rs.length)=Go.Det.den (colA n rs c) bs*colA n rs c s i - sm (fun v=>colA n rs c v i*vx n rs c bs (colA n rs c s) v) (n+rs.length):=fun i=>by
    have e:sm (fun v=>colA n rs c v i*zx n rs c bs s v) (n+rs.length)=sm (fun v=>(if v=s then colA n rs c v i*Go.Det.den (colA n rs c) bs else 0)+(-1)*(colA n rs c v i*vx n rs c bs (colA n rs c s) v)) (n+rs.length):=Xa fun v _=>by
      unfold zx
      split <;>grind
    rw [e,sm_add,Yz,Yj hs fun v _ hv=>if_neg hv,if_pos J,Int.mul_comm];omega
  refine ⟨hd,fun v _=>hnn v,fun i hi=> ?_,?_⟩
  · have h1:=h.rowsum (colA_V (n:=n) (rs:=rs) (c:=c) s) (i:=i) (by omega);rw [if_neg (by omega),Int.add_zero] at h1;have h2:=hsum i;rw [h1,Int.sub_self,low_sum i hi] at h2;have:=hnn (n+i);omega
  · have h1:=h.rowsum (colA_V (n:=n) (rs:=rs) (c:=c) s) (i:=rs.length) (Nat.le_refl _);rw [if_pos J] at h1;have h2:=hsum rs.length;rw [goal_sum] at h2;omega
theorem Ph.pt_at(h:Ph n rs c (n+rs.length) T bs){v:Nat}(hv:v<n):(ptS T n T.bas.length).getD v 0=shq (vx n rs c bs (rhsQ rs) v) (Go.Det.den (colA n rs c) bs):=by
  have hV:=h.good.view;rw [hV.basl]
  have key:∀q,q≤rs.length→(ptS T n q).getD v 0=shq (sm (fun k=>if bs.getD k 0=v then tt (colA n rs c) bs k (rhsQ rs) else 0) q) (Go.Det.den (colA n rs c) bs):=by
    intro q hq
    induction q with
    |zero=>simp only [ptS,sm,shq_zero];simp [List.getD_eq_getElem?_getD,List.getElem?_replicate,hv]
    |succ q ih=>
      have ih:=ih (by omega);have hbq:=hV.basv q (by omega);have hl:=ptS_len T n q;simp only [ptS,sm];by_cases h1:bs.getD q 0=v
      · rw [if_pos (by rw [hbq,h1];omega),hbq,h1,Int.toNat_natCast,Zz (by omega),if_pos J,if_pos J,hV.den];rw [ZV fun k hk=>if_neg fun e=>h.bas.ne (dup_zero (i:=q) (k:=k) (by rw [h.bas.len];omega) (by rw [h.bas.len];omega) (by omega) (by rw [h1,e]))];rw [Int.zero_add,hV.rhs q (by have:=hV.rm;omega)]
      · rw [if_neg h1,Int.add_zero,←ih];split
        · rw [hbq,Int.toNat_natCast,Zz (by rw [hl];omega),if_neg h1]
        · rfl
  exact key rs.length (Nat.le_refl _)
theorem Ph.du_at(h:Ph n rs c W T bs){g i:Nat}(hW:n+rs.length≤W)(hg:rs.length≤g)(hgT:g<T.rows.length)(hi:i<rs.length):(duS T n rs.length g T.col.length).getD i 0=shq (yx n rs c bs g i) (Go.Det.den (colA n rs c) bs):=by
  have hV:=h.good.view;have hC:=h.good.cov;have hl:=duS_len T n rs.length g
  have hgM:g<rs.length+2:=by have:=hV.rM;omega
  have none:∀q,q≤T.col.length→(∀j,j<q→T.col.getD j 0≠((n+i:Nat):Int))→(duS T n rs.length g q).getD i 0=0:=by
    intro q hq hn
    induction q with
    |zero=>simp only [duS];simp [List.getD_eq_getElem?_getD,List.getElem?_replicate,hi]
    |succ q ih=>
      have ih:=ih (by omega) (fun j hj=>hn j (by omega));simp only [duS];split
      · rw [Zz (by rw [hl];omega),if_neg (by have:=hn q (by omega);omega)];exact ih
      · exact ih
  rcases hC.all (n+i) (by omega) with ⟨k,hk,he⟩|⟨j,hj,he⟩
  · have hy:yx n rs c bs g i=0:=by
      unfold yx;rw [←he];exact Yd h.bas.len hgM (by omega) (by omega)
    rw [hy,shq_zero];refine none _ (Nat.le_refl _) (fun j hj e=> ?_);have:=hC.dis j k hj hk;omega
  · have hy:yx n rs c bs g i=T.at g j:=by
      rw [hV.num g hgT j hj,he,Int.toNat_natCast];rfl
    have key:∀q,q≤T.col.length→j<q→(duS T n rs.length g q).getD i 0=shq (T.at g j) T.den:=by
      intro q hq hjq
      induction q with
      |zero=>omega
      |succ q ih=>
        simp only [duS];by_cases h1:j=q
        · subst h1;rw [if_pos (by omega),Zz (by rw [hl];omega),if_pos (by omega)]
        · have ih:=ih (by omega) (by omega);split
          · rw [Zz (by rw [hl];omega),if_neg (by have:=hC.inj j q hj (by omega) h1;omega)];exact ih
          · exact ih
    rw [key _ (Nat.le_refl _) hj,hy,hV.den]
theorem Ph.ra_at(h:Ph n rs c (n+rs.length) T bs){e s v:Nat}(he:e<T.col.length)(hs:T.col.getD e 0=(s:Int))(hv:v<n):(raS T n e T.bas.length).getD v 0=shq (zx n rs c bs s v) (Go.Det.den (colA n rs c) bs):=by
  have hV:=h.good.view;have hC:=h.good.cov;rw [hV.basl]
  have hnb:∀k,k<rs.length→bs.getD k 0≠s:=fun k hk e2=>by have:=hC.dis e k he hk;omega
  have key:∀q,q≤rs.length→(raS T n e q).getD v 0=shq ((if v=s then Go.Det.den (colA n rs c) bs else 0) - sm (fun k=>if bs.getD k 0=v then tt (colA n rs c) bs k (colA n rs c s) else 0) q) (Go.Det.den (colA n rs c) bs):=by
    intro q hq
    induction q with
    |zero=>
      simp only [raS,sm,Int.sub_zero];rw [hs];by_cases h1:v=s
      · subst h1;rw [if_pos (by omega),Int.toNat_natCast,Zz (by simp;omega),if_pos J,if_pos J,hV.den]
      · rw [if_neg h1,shq_zero];split
        · rw [Int.toNat_natCast,Zz (by simp;omega),if_neg (Ne.symm h1)];simp [List.getD_eq_getElem?_getD,List.getElem?_replicate,hv]
        · simp [List.getD_eq_getElem?_getD,List.getElem?_replicate,hv]
    |succ q ih=>
      have ih:=ih (by omega);have hbq:=hV.basv q (by omega);have hl:=raS_len T n e q;simp only [raS,sm];by_cases h1:bs.getD q 0=v
      · have hvs:v≠s:=fun e2=>hnb q (by omega) (by rw [h1,e2])
        rw [if_pos (by rw [hbq,h1];omega),hbq,h1,Int.toNat_natCast,Zz (by omega),if_pos J,if_pos J,if_neg hvs,hV.den];rw [ZV fun k hk=>if_neg fun e2=>h.bas.ne (dup_zero (i:=q) (k:=k) (by rw [h.bas.len];omega) (by rw [h.bas.len];omega) (by omega) (by rw [h1,e2]))];rw [hV.num q (by have:=hV.rm;omega) e he,hs,Int.toNat_natCast]
        congr 1;omega
      · rw [if_neg h1,Int.add_zero,←ih];split
        · rw [hbq,Int.toNat_natCast,Zz (by rw [hl];omega),if_neg h1]
        · rfl
  exact key rs.length (Nat.le_refl _)
end
end Go.Proofs.YtojkdfilabmafaaGreat
namespace Go.Own
def seqR : Code → Code
  | .seq _ b => b
  | c => c
def bodyOf (f : Func) : Code := match f.body with
  | some c => c
  | none => .skip
end Go.Own
namespace Go.Proofs.YtojkdfilabmafaaGreat
open Go.Own Go.Limbs
attribute [local irreducible] St Ops Go.Own.Fin Ok OkM
theorem gostart:InGo Tryz.prog 139:=InGo.of Tryz.func139 (by kernel_rfl) (by kernel_rfl)
theorem ints_flat(xs:List Int):(xs.map fun x=>[intC x]).flatten=ints xs:=by
  induction xs with
  |nil=>rfl
  |cons x xs ih=>
    have e:ints (x::xs)=intC x::ints xs:=rfl;rw [e,←ih];rfl
theorem getD_take'{α:Type}{l:List α}{i q:Nat}{d:α}(h:i<q):(l.take q).getD i d=l.getD i d:=by
  simp [List.getD_eq_getElem?_getD,List.getElem?_take,h]
theorem fIx_bd(xs:List Int)(v:Int): -1≤fIx xs v∧fIx xs v<xs.length:=idxI_bd _ _
theorem nzC_bd{E:Tv}{last:Nat}{art:Int}: -1≤nzC E last art∧nzC E last art<(last+1:Nat):=by
  have:=idxI_bd (fun x=>decide (x≠0)) ((E.rows.getD (fIx E.bas art).toNat []).take (last+1));unfold nzC;rw [List.length_take] at this;omega
theorem stE2_lens(E:Tv)(last:Nat)(art:Int):(stE2 E last art).rows.length=E.rows.length∧(stE2 E last art).bas.length=E.bas.length∧(stE2 E last art).col.length=E.col.length:=by
  unfold stE2;split
  · exact ⟨rfl,rfl,rfl⟩
  · exact ⟨Xe _ _ _,pvt_bas _ _ _,Z8 _ _ _⟩
theorem set3_B{e0 e1 e2 e3 e3' :Ent}{Lr:BL}:∀j,bget ((0,e0)::(1,e1)::(2,e2)::(3,e3')::Lr) j=bget ((3,e3')::bdel ((0,e0)::(1,e1)::(2,e2)::(3,e3)::Lr) 3) j:=fun j=>by
  by_cases h3:3=j
  · subst h3;rw [Qd];rfl
  · rw [QU _ _ h3,XK _ (Ne.symm h3)]
    match j,h3 with
    |0,_=>rfl
    |1,_=>rfl
    |2,_=>rfl
    |3,h=>exact absurd rfl h
    |j+4,_=>rfl
set_option maxHeartbeats 64000000 in
theorem start_tail(T E E2:Tv)(art:Int)(g1 c1 g3 c3:Nat)(hlx:List Value)(S:BSet)(w:World)(ρ0:Nat→Value)(hbor:∀gb,(lentM Tryz.prog 220 S w (tabB T) [0] ρ0).bor gb→S gb)
    (hout:stOut T E art=stE3 E T.bas.length T.col.length art) (hres:stRes T E=true) (hE3d:stE3 E T.bas.length T.col.length art={E2 with rows:=delP (fIx E2.col art).toNat (E2.rows.take (T.bas.length+1)) (T.bas.length+1),col:=E2.col.eraseIdx (fIx E2.col art).toNat,hl:=E2.hl.take (T.bas.length+1)})
    (hRo:0≤fIx E2.col art) (hr2:∀i,i<T.bas.length+2→(E2.rows.getD i []).length=T.col.length+2) (hn2:E2.rows.length=T.bas.length+2) (hc2:E2.col.length=T.col.length+1)
    (hhx:hlx.length=T.bas.length+2) (hlen:T.hl.length=T.bas.length+1) (hc1:T.hl.length+1≤c1) (hc3:T.col.length+1≤c3) (hw1:T.bas.length≤90) (hw2:T.col.length≤90):
    St (lentM Tryz.prog 220 S w (tabB T) [0] ρ0) [(0, .own 0),(1, .ct (intC art)),(5, .ct (intC T.bas.length)),(6, .ct (intC T.col.length))]
      ((0, .box 215 [.ex (kh g1 0 (T.hl.length+1) c1), .ex T.hB, .ex (kh g3 0 (T.col.length+1) c3),boolC (decide (E2.den<0)),natC E2.den.natAbs])::(1, .rowx (kh g1 0 (T.hl.length+1) c1) 212 1 (hlx.map CT.ex))::(2, .rowx T.hB 3 1 (ints E2.bas))::(3, .rowx (kh g3 0 (T.col.length+1) c3) 3 1 (ints E2.col))::linesB 10 hlx E2.rows)
      (seqR (seqR (seqR (seqR (seqR (seqR (seqR (seqR (seqR (seqR (seqR (seqR (seqR (bodyOf Tryz.f139))))))))))))))
      (bodyPost Tryz.prog Tryz.f139 (postM S w ρ0 (tabB T) [0] (fun H:Tv=>H.hl.length=(stOut T E art).rows.length) (fun _=> .ct (boolC (stRes T E))) (fun H=>tabB ((stOut T E art).wh H)))):=by
  have bC:=fIx_bd E2.col art;have hIc:Ok Tryz.prog 203 [intsC E2.col,intC art] (intC (fIx E2.col art)):=Index_ints E2.col art (by omega);obtain ⟨cx,hcx⟩:∃cx:Nat,fIx E2.col art=cx:=⟨(fIx E2.col art).toNat,by omega⟩;rw [hcx] at hIc bC;rw [hcx,Int.toNat_natCast] at hE3d;refine Qy (Qx fun K hK=> ?_);refine Qq J J J (Q0 J J J J (QJ J J J fT2 J (QQ J J J J J lInts J (Qq J J J (Ops.callRO 3 goIndex_ints hIc J J (fun a ρ w hI=> ?_) J J ?_)))))
  · have h1:=hI.readX (i:=3) (el:=3) (n:=1) (v:=kh g3 0 (T.col.length+1) c3) (es:=E2.col.map fun x=>[intC x]) (by rw [ints_flat];rfl) (by simp) (by decide) hbor;have h2:a.eval (.tmp 174)=kh g3 0 (T.col.length+1) c3:=hI.evx J;exact ⟨by rw [h2];exact h1,hI.evx J,trivial⟩
  refine Qv J J J (Qj (hK _ _ (Qz (Qy ?_))));clear hK K;refine Qx (fun K hK=> ?_);refine Qq J J J (Qq J J J (Q0 J J J J (QJ J J J fT0 J (QQ J J J J J lMat J (Qq J J J (Qk (iadd (by omega) (by omega)) J J J J ?_))))))
  refine Ya (T.bas.length+1) J J J (by omega) sMat (by omega) J ?_
  refine Ops.shrink 1 (T.bas.length+1) J (by simp [hhx,hlen]) (by decide) (by omega) ?_
  refine Q0 J J J J (QJ J J J fT0 J (Xj J J J J J zMat (Nat.le_of_ble_eq_true J) (Qj (hK _ _ (Qz (Qy ?_))))));clear hK K;refine Qx (fun K hK=> ?_);refine Qq J J J (Qq J J J (Q0 J J J J (QJ J J J fT2 J (QQ J J J J J lInts J (Qq J J J (Qq J J J (Qk (iadd (by omega) (by omega)) J J J J ?_)))))));have hdc:=(Delete_ints g3 (T.col.length+1) c3 E2.col cx (by omega) (by omega) hc3 (by omega)).nm 3 (fun _ _=> .inl ⟨_,rfl⟩);refine Ops.call1 3 goDelete_ints hdc J J J hbor J (fun p hp=> ?_) (fun q j hq=> ?_) (fun _ _=> ?_)
  · obtain ⟨k,hk,rfl⟩:=List.mem_map.1 hp
    obtain rfl:k=0:=by simpa using hk
    exact ⟨by simp,rfl⟩
  · rcases hq with hq|⟨o,hq⟩ <;>simp [Sl.ren] at hq
  refine Ops.keep [(0, .own 0),(5, .ct (intC T.bas.length)),(16, .ct (intC cx)),(187, .own 0),(195, .ct (.ex (kh g3 0 (T.col.length+1 - 1) c3)))] ⟨rfl,rfl,rfl,rfl,rfl,trivial⟩ ?_
  have htk:(hlx.map CT.ex).take ((T.bas.length+1)*1)=(hlx.take (T.bas.length+1)).map CT.ex:=by rw [Nat.mul_one,List.map_take]
  refine Ops.reB (B' :=(0, .box 215 [.ex (kh g1 0 (T.bas.length+1) c1), .ex T.hB, .ex (kh g3 0 (T.col.length+1) c3),boolC (decide (E2.den<0)),natC E2.den.natAbs])::(1, .rowx (kh g1 0 (T.bas.length+1) c1) 212 1 ((hlx.take (T.bas.length+1)).map CT.ex))::(2, .rowx T.hB 3 1 (ints E2.bas))::(3, .rowx (kh g3 0 (T.col.length+1 - 1) c3) 3 1 (ints (E2.col.eraseIdx cx)))::linesB 10 hlx E2.rows) (fun j=>by rw [←htk];exact set3_B j) ?_
  refine Q0 J J J J (QJ J J J fT2 J (Xj J J J J J zInts (Nat.le_of_ble_eq_true J) (Qj (hK _ _ (Qz (Qy (Qy ?_)))))));clear hK K;refine Qx (fun K hK=> ?_);refine Qq J J J (Q0 J J J J (QJ J J J fT0 J (QQ J J J J J lMat J (ZK 1 (T.bas.length+1) J J J (by decide) (by simp [hhx]) sMat.und J ?_))));refine Qq J J J (Qj (hK _ _ (Qz (Q3 ?_))));clear hK K
  have hyt:(hlx.take (T.bas.length+1)).length=T.bas.length+1:=by rw [List.length_take];omega
  have hrt:(E2.rows.take (T.bas.length+1)).length=T.bas.length+1:=by rw [List.length_take];omega
  refine Qs (α:=Nat × List Value) (fun x=>x.1≤T.bas.length+1∧x.2.length=T.bas.length+1)
    (fun x=>[(0, .own 0),(5, .ct (intC T.bas.length)),(16, .ct (intC cx)),(201, .ct (.ex (kh g1 0 (T.bas.length+1) c1))),(202, .ct (intC ((T.bas.length+1:Nat):Int))),(203, .ct (intC x.1))])
    (fun x=>(0, .box 215 [.ex (kh g1 0 (T.bas.length+1) c1), .ex T.hB, .ex (kh g3 0 T.col.length c3),boolC (decide (E2.den<0)),natC E2.den.natAbs])::(1, .rowx (kh g1 0 (T.bas.length+1) c1) 212 1 (x.2.map CT.ex))::(2, .rowx T.hB 3 1 (ints E2.bas))::(3, .rowx (kh g3 0 T.col.length c3) 3 1 (ints (E2.col.eraseIdx cx)))::linesB 10 x.2 (delP cx (E2.rows.take (T.bas.length+1)) x.1))
    (fun x=>T.bas.length+1 - x.1) (0,hlx.take (T.bas.length+1)) ⟨Nat.zero_le _,hyt⟩ (by exact Qe (T.bas.length+1+10) (Y9 (by dsimp only;rw [delP_zero];exact drop_B (by omega) (by omega)) ⟨rfl,rfl,rfl,rfl,rfl,rfl,trivial⟩)) ?_
  rintro ⟨i,hly⟩ ⟨hi,hhy⟩
  dsimp only at hi hhy ⊢;have hdl2:=delP_len cx (E2.rows.take (T.bas.length+1)) i;rw [hrt] at hdl2;refine Qy (Qx fun K hK=> ?_);refine Qk ilss J J J J (Qj (hK _ _ (Qz (Qy ?_))));clear hK K;refine Q2 J (fun h7=> ?_) (fun h7=> ?_)
  · have ki:(i:Int).toNat*1=i:=by omega
    have hi2:i<T.bas.length+1:=by omega
    have hat:=delP_at cx (E2.rows.take (T.bas.length+1)) i (by omega);have hset:=delP_set cx (E2.rows.take (T.bas.length+1)) i (by omega);rw [getD_take' hi2] at hat hset;have hln:=hr2 i (by omega);generalize hline:E2.rows.getD i []=line at*;have hlg:=Xw (k:=10) (hl:=hly) (zs:=delP cx (E2.rows.take (T.bas.length+1)) i) (i:=i) (by omega) (by omega);rw [hat] at hlg;generalize hcur:delP cx (E2.rows.take (T.bas.length+1)) i=cur at*;refine QW (Qz (Qy (Q3 (Qy (Qx fun K hK=> ?_)))));refine Qq J J J (Qp 1 (T.bas.length+1) J J J (by simp [hhy]) J sMat (by omega) (by omega) J ?_);rw [ki]
    refine QQ J J J J (Ze (by omega)) lWhs J ?_
    refine Ops.hand (i+10) (T.col.length+2) (by exact hlg) (by rw [XV,hln]) (by omega) (by decide) (fun gb cc hh hcc hccm=> ?_);rw [hh] at hlg;rw [hh];refine Qv J J J (Qv J J J (Qj (hK _ _ (Qz ?_))));clear hK K;have hdl:=(Delete_whs gb (T.col.length+2) cc line cx (by omega) (by omega) hcc (by omega)).nm (i+10) (fun _ _=> .inl ⟨_,rfl⟩);refine Yy mixed [9,11] (.p 0 (.p 1 (.p 2 (.p 4 (.p 5 (.p 6 (.p 7 (.p 8 (.m 3 (.a 9 (.p 10 (.a 11 .done .non)) .non) (.a 9 (.m 3 (.p 10 (.a 11 .done .non)) .non) .non)))))))))) (by kernel_rfl) (fun K hK=> ?_)
    refine (fun (cont:Go.Own.Fin _ [(0, .own 0),(5, .ct (intC T.bas.length)),(16, .ct (intC cx)),(201, .ct (.ex (kh g1 0 (T.bas.length+1) c1))),(202, .ct (intC ((T.bas.length+1:Nat):Int))),(203, .ct (intC i)),(17, .ct (intC i))]
      (bset ((i+10, .rowx (kh gb 0 (T.col.length+2 - 1) cc) 211 2 (whs (line.eraseIdx cx)))::bdel ((0, .box 215 [.ex (kh g1 0 (T.bas.length+1) c1), .ex T.hB, .ex (kh g3 0 T.col.length c3),boolC (decide (E2.den<0)),natC E2.den.natAbs])::(1, .rowx (kh g1 0 (T.bas.length+1) c1) 212 1 (hly.map CT.ex))::(2, .rowx T.hB 3 1 (ints E2.bas))::(3, .rowx (kh g3 0 T.col.length c3) 3 1 (ints (E2.col.eraseIdx cx)))::linesB 10 hly cur) (i+10)) 1 (.rowx (kh g1 0 (T.bas.length+1) c1) 212 1 ((hly.map CT.ex).set i (.ex (kh gb 0 (T.col.length+2 - 1) cc))))) K)=> ?_) (hK _ _ ?_)
    rotate_left
    · clear hK K;refine Qz (Qx fun K hK=> ?_)
      refine Qk (iadd (by omega) (by omega)) J J J J ?_
      refine Qq J J J (Qj (hK _ _ (Q6 ?_)));clear hK K
      refine Q9 (i+1,hly.set i (kh gb 0 (T.col.length+2 - 1) cc)) (by dsimp only;omega) ⟨by dsimp only;omega,by dsimp only;rw [List.length_set];exact hhy⟩ (by exact (Y9 (by
        dsimp only
        rw [←hset,List.map_set];exact upd_B (by omega) (by omega)) ⟨rfl,rfl,rfl,rfl,rfl,by simp only [Int.natCast_add];rfl,trivial⟩))
    clear hK;refine Qr (Qq J J J (Qj ?_));refine Qr (Q0 J J J J (Qj ?_));refine Qr (QJ J J J fT0 J (Qj ?_));refine Qr (Qq J J J (Qj ?_));refine Qr (Qq J J J (Qj ?_));refine Qr (Qq J J J (Qj ?_));refine Qr (Qq J J J (Qj ?_));refine Qr (Qk (iadd (by omega) (by omega)) J J J J (Qj ?_))
    refine XW ?_ ?_
    · refine QQ J J J J J lMat J (Qj ?_)
      refine Qn ?_ Q8
      refine Ops.call1 (i+10) goDelete_whs hdl J J J hbor (by exact hlg) (fun p hp=> ?_) (fun q j hq=> ?_) (fun _ _=> ?_);rotate_left;rotate_left
      · refine Qj (Qr (Qp 1 (T.bas.length+1) J J J (by simp [hhy]) J sMat (by omega) (by omega) J ?_));rw [ki];refine Qj (Qn (Xj J J J J J zWhs (by simp [Ent.cs,hhy];omega) (Qj ?_)) Q8);exact Xv (Y5 cont ⟨rfl,rfl,rfl,rfl,rfl,rfl,rfl,trivial⟩)
      · obtain ⟨k,hk,rfl⟩:=List.mem_map.1 hp
        obtain rfl:k=0:=by simpa using hk
        exact ⟨by simp,rfl⟩
      · rcases hq with hq|⟨o,hq⟩ <;>simp [Sl.ren] at hq
    · refine Qn ?_ Q8
      refine Ops.call1 (i+10) goDelete_whs hdl J J J hbor (by exact hlg) (fun p hp=> ?_) (fun q j hq=> ?_) (fun _ _=> ?_);rotate_left;rotate_left
      · refine Qj (XW ?_ Q8);refine QQ J J J J J lMat J (Qj ?_);refine Qr (Qp 1 (T.bas.length+1) J J J (by simp [hhy]) J sMat (by omega) (by omega) J ?_);rw [ki];refine Qj (Qn (Xj J J J J J zWhs (by simp [Ent.cs,hhy];omega) (Qj ?_)) Q8);exact Xv (Y5 cont ⟨rfl,rfl,rfl,rfl,rfl,rfl,rfl,trivial⟩)
      · obtain ⟨k,hk,rfl⟩:=List.mem_map.1 hp
        obtain rfl:k=0:=by simpa using hk
        exact ⟨by simp,rfl⟩
      · rcases hq with hq|⟨o,hq⟩ <;>simp [Sl.ren] at hq
  have hi' :i=T.bas.length+1:=by omega
  subst hi';refine Qm (Qz (Qy (Qx fun K hK=> ?_)));refine Qv J J J (Qj (hK _ _ (Qz (Q4 ?_))));clear hK K;refine YK ⟨kh g1 0 (T.bas.length+1) c1,T.hB,kh g3 0 T.col.length c3,hly,[],[],[],0⟩ [_] rfl (QX J QZ) (by rw [hres];rfl) (fun j=>by rw [hout,hE3d];rfl) (by rw [hout,hE3d];show hly.length=_;rw [hhy];show _=(delP cx _ _).length;rw [delP_len,hrt])
end Go.Proofs.YtojkdfilabmafaaGreat
namespace Go.Proofs.YtojkdfilabmafaaGreat
open Go.Own Go.Limbs
attribute [local irreducible] St Ops Go.Own.Fin Ok OkM
set_option maxHeartbeats 64000000 in
theorem start_ok(T E:Tv)(art:Int)(ha1: -1152921504606846976≤art)(ha2:art≤1152921504606846976)(hF:Fit T)(hm:T.rows.length=T.bas.length+1)(hS:Shrt T)(hfull:∀h∈T.hl,∃gb,h=kh gb 0 (T.col.length+1) (T.col.length+1))(hrun:0≤wrS T T.bas.length→StartRun T art E)(hw1:T.rows.length≤90)(hw2:T.col.length≤90):
    OkM Tryz.prog 139 [.own 0, .ct (intC art)] (tabB T) [0] (fun H:Tv=>H.hl.length=(stOut T E art).rows.length) (fun _=> .ct (boolC (stRes T E))) (fun H=>tabB ((stOut T E art).wh H)):=by
  have hhl:=hF.hl;have hof0:=of_ok 0 (by decide) (by decide);have hof1:=of_ok 1 (by decide) (by decide);have hofm:=of_ok (-1) (by decide) (by decide)
  have kl2:(T.col.length:Int).toNat*2=T.col.length*2:=by omega
  refine OkM.enter Tryz.func139 J _ Tryz.ntmps139 J (tab_fx T) ?_
  intro S w ρ0 hbor
  have hfix:∀p∈(lentM Tryz.prog 220 S w (tabB T) [0] ρ0).fix,(bget [] p.1).isSome=true∨p.1∈ [0]:=fun p hp=>by
    obtain ⟨i,hi,rfl⟩:=List.mem_map.1 hp;exact .inr hi
  simp only [tabB];refine Qy (Qx fun K hK=> ?_);refine Qv J J J (Qj (hK _ _ (Qz (Qy ?_))));clear hK K;refine XX mixed 12 (.p 0 (.p 1 (.p 2 (.p 5 (.p 6 (.p 7 (.f 3 (.p 4 (.p 10 (.f 8 (.p 9 (.p 11 .done)))))))))))) (by kernel_rfl) (fun K hK=> ?_);refine Qq J J J (Q0 J J J J (QJ J J J fT1 J (Qq J J J (Q0 J J J J (QJ J J J fT2 J (QQ J J J J J lInts J (ZK 2 T.bas.length J J J (by decide) (by simp) sInts.und J ?_)))))));refine Qv J J J (QQ J J J J J lInts J (ZK 3 T.col.length J J J (by decide) (by simp) sInts.und J ?_));refine Qv J J J (Qj (hK _ _ (Qz (Qy ?_))));clear hK K;refine Qx (fun K hK=> ?_);refine Qv J J J (Qj (hK _ _ (Qz (Qy (Qy ?_)))));clear hK K;refine Qx (fun K hK=> ?_);refine Qq J J J (Qq J J J (Qj (hK _ _ (Qz (Q3 ?_)))));clear hK K
  refine Qs (α:=Nat) (fun i=>i≤T.bas.length)
    (fun i=>[(0, .own 0),(1, .ct (intC art)),(5, .ct (intC T.bas.length)),(6, .ct (intC T.col.length)),(7, .ct (intC (wrS T i))),(29, .ct (intC T.bas.length)),(30, .ct (intC i))])
    (fun _=>tabB T) (fun i=>T.bas.length - i) 0 (Nat.zero_le _) (by exact Qu J ⟨rfl,rfl,rfl,rfl,rfl,rfl,rfl,trivial⟩) ?_
  intro i hi;dsimp only at hi ⊢;have wb:=wrS_bd T i
  have ws:wrS T (i+1)=if T.at i T.col.length<0∧(wrS T i<0∨T.at i T.col.length+ -(T.at (wrS T i).toNat T.col.length)<0) then (i:Int) else wrS T i:=rfl
  generalize hwr:wrS T i=wr at*;simp only [tabB];refine Qy (Qx fun K hK=> ?_);refine Qk ilss J J J J (Qj (hK _ _ (Qz (Qy ?_))));clear hK K;refine Q2 J (fun h=> ?_) (fun h=> ?_)
  · have hi2:i<T.rows.length:=by omega
    have hrow:=hF.row i hi2
    have ki:(i:Int).toNat*1=i:=by omega
    have sb:=hS i T.col.length;refine QW (Qz (Qy (Q3 (Qy (Qx fun K hK=> ?_)))));refine Qq J J J (Qv J J J (Qj (hK _ _ (Qz (Qy ?_)))));clear hK K;refine Qx (fun K hK=> ?_);refine Qq J J J (Q0 J J J J (QJ J J J fT0 J (QQ J J J J J lMat J (Qq J J J (Qp 1 T.rows.length J J J (by simp [hhl]) J sMat (by omega) (by omega) J ?_)))));rw [ki]
    refine QQ J J J J (Ze (by omega)) lWhs J ?_
    refine Qq J J J (Qp (i+10) (T.col.length+1) J J (Xw (by omega) hi2) (by rw [XV,hrow]) J sWhs (by omega) (by omega) J ?_);rw [kl2]
    refine ldWh J J J (Xw (by omega) hi2) J (by omega) lWh J ?_
    generalize hb:T.at i T.col.length=b at*;rw [show (T.rows.getD i []).getD T.col.length 0=b from hb]
    refine Qf 4 J J zvWh J (by exact Z1 10 _ _ 4 (by decide)) J ?_
    refine Qa 2 J J J J J szWh J J (Qj (hK _ _ (Qz (Qy ?_))));clear hK K;refine XX mixed 24 (.f 0 (.m 1 (.p 2 (.p 3 (.p 4 (.p 5 (.p 6 (.p 8 (.p 9 (.p 10 (.p 12 (.p 15 (.f 7 (.f 11 (.p 13 (.f 14 (.p 16 (.f 17 (.m 18 (.m 19 (.m 20 (.p 21 (.p 22 (.p 23 .done)))))))))))))))))))))))) (by kernel_rfl) (fun K hK=> ?_);refine (fun (cont:∀c:Bool,(c=true↔(b<0∧(wr<0∨b+ -(T.at wr.toNat T.col.length)<0)))→Go.Own.Fin _ [(66, .ct (boolC c)),(0, .own 0),(1, .ct (intC art)),(5, .ct (intC T.bas.length)),(6, .ct (intC T.col.length)),(7, .ct (intC wr)),(8, .ct (intC i)),(29, .ct (intC T.bas.length)),(30, .ct (intC i))] ((4, .box 211 (whCs b))::tabB T) K)=> ?_) (fun c hc=>hK _ _ ?_);rotate_left
    · clear hK K;simp only [tabB];refine Qz (X6 J (fun h2=> ?_) (fun h2=> ?_))
      · have hP:=hc.1 h2;refine Qx (fun K hK=> ?_);refine Qq J J J (Qv J J J (Qj (hK _ _ (Qz ?_))));clear hK K;refine Qx (fun K hK=> ?_)
        refine Qk (iadd (by omega) (by omega)) J J J J ?_
        refine Qq J J J (Qj (hK _ _ (Q6 ?_)));clear hK K;refine Q9 (i+1) (by omega) (by omega) (by exact Qe 4 (Qu (by exact del4) ⟨rfl,rfl,rfl,rfl,by rw [ws,if_pos hP];rfl,rfl,by simp only [Int.natCast_add];rfl,trivial⟩))
      · have hP:¬(b<0∧(wr<0∨b+ -(T.at wr.toNat T.col.length)<0)):=fun hp=>by have:=hc.2 hp;rw [h2] at this;cases this
        refine QW (Qz (Qx fun K hK=> ?_))
        refine Qk (iadd (by omega) (by omega)) J J J J ?_
        refine Qq J J J (Qj (hK _ _ (Q6 ?_)));clear hK K;refine Q9 (i+1) (by omega) (by omega) (by exact Qe 4 (Qu (by exact del4) ⟨rfl,rfl,rfl,rfl,by rw [ws,if_neg hP];rfl,rfl,by simp only [Int.natCast_add];rfl,trivial⟩))
    clear hK;refine Qc (n:=2) J J J J J lWh J (QV gosign (Y3 b) J J J J (Qk ilss J J J J (Qq J J J (Qi 46 J (fun h1=> ?_) (fun h1=> ?_)))))
    · have hb0:b<0:=sgn_lt.1 h1;refine Qq J J J (Qk ilss J J J J (Qq J J J (Qi 49 J (fun h2=> ?_) (fun h2=> ?_))))
      · refine Qw J J J (Qw J J J (Qw J J J (Qw J J J (Qw J J J (Qw J J J (Qw J J J (Qw J J J (Qw J J J (Qw J J J (Qw J J J (Qw J J J (Qw J J J (Qw J J J (Qw J J J (Q5 J J J J (Q5 J J J J ?_))))))))))))))));exact Qj (Y5 (cont true ⟨fun _=>⟨hb0, .inl h2⟩,fun _=>rfl⟩) ⟨rfl,rfl,rfl,rfl,rfl,rfl,rfl,rfl,rfl,trivial⟩)
      · obtain ⟨q,rfl⟩:∃q:Nat,wr=q:=⟨wr.toNat,by omega⟩
        have hq2:q<T.rows.length:=by omega
        have hrowq:=hF.row q hq2
        have kq:(q:Int).toNat*1=q:=by omega
        have sq:=hS q T.col.length;rw [Int.toNat_natCast] at cont;generalize hb2:T.at q T.col.length=b2 at*;refine Qq J J J (Q0 J J J J (QJ J J J fT0 J (Qq J J J (Qq J J J (Qc (n:=2) J J J J J lWh J (QQ J J J J J lMat J (Qp 1 T.rows.length J J J (by simp [hhl]) J sMat (by omega) (by omega) J ?_)))))));rw [kq]
        refine QQ J J J J (Ze (by omega)) lWhs J ?_
        skip
        refine Qp (q+10) (T.col.length+1) J J (Xw (by omega) hq2) (by rw [XV,hrowq]) J sWhs (by omega) (by omega) J ?_
        rw [kl2]
        refine ldWh J J J (Xw (by omega) hq2) J (by omega) lWh J ?_
        rw [show (T.rows.getD q []).getD T.col.length 0=b2 from hb2];refine QV gominus (minus_ok b2) J J J J (QV goplus (plus_ok b (-b2) (by omega) (Nat.le_trans (neg_short sq) (by decide))) J J J J ?_);refine QV gosign (Y3 _) J J J J (Qk ilss J J J J (Q7 J J J J (Q5 J J J J (Qj (Y5 (cont (decide ((b+ -b2).sign<0)) ⟨fun hd=>⟨hb0, .inr (sgn_lt.1 (of_decide_eq_true hd))⟩,fun hd=>decide_eq_true (sgn_lt.2 (hd.2.resolve_left h2))⟩) ⟨rfl,rfl,rfl,rfl,rfl,rfl,rfl,rfl,rfl,trivial⟩)))))
    · refine Qw J J J (Qw J J J (Qw J J J (Qw J J J (Qw J J J (Qw J J J (Qw J J J (Qw J J J (Qw J J J (Qw J J J (Qw J J J (Qw J J J (Qw J J J (Qw J J J (Qw J J J (Qw J J J (Qw J J J (Qw J J J (Qw J J J (Q7 J J J J ?_)))))))))))))))))));exact Qj (Y5 (cont false ⟨fun hd=>by (cases hd),fun hd=>absurd (sgn_lt.2 hd.1) h1⟩) ⟨rfl,rfl,rfl,rfl,rfl,rfl,rfl,rfl,rfl,trivial⟩)
  have hi' :i=T.bas.length:=by omega
  subst hi';simp only [tabB];refine Qm (Qz (Qy (Qy (Qx fun K hK=> ?_))));refine Qq J J J (Qk ilss J J J J (Qj (hK _ _ (Qz ?_))));clear hK K;refine Q2 J (fun h2=> ?_) (fun h2=> ?_)
  · have e1:stOut T E art=T:=by unfold stOut;rw [hwr,if_pos h2]
    have e2:stRes T E=true:=by unfold stRes;rw [hwr,decide_eq_true h2];rfl
    refine Qy (Qx fun K hK=> ?_);refine Qv J J J (Qj (hK _ _ (Qz (Q4 (QY ?_)))));clear hK K;refine YK T [_] rfl (QX J QZ) (by rw [e2];rfl) (fun j=>by rw [e1];rfl) (by rw [e1];exact hhl)
  obtain ⟨w0,rfl⟩:∃q:Nat,wr=q:=⟨wr.toNat,by omega⟩;have R:=hrun (by omega);have hG1:=R.gd;obtain ⟨sE,kE,hE⟩:=R.run;rw [hwr,Int.toNat_natCast] at hE
  have hrl2:(T.rows++ [List.replicate (T.col.length+1) (0:Int)]).length=T.rows.length+1:=by simp
  refine QW (Qz (Qy (Qx fun K hK=> ?_)));refine Qq J J J (Qk (iadd (by omega) (by omega)) J J J J ?_);refine Ops.makeX (T.hl.length+10) (T.col.length+1) J J J (by omega) sWhs (by omega) (by omega) J (by exact lines_ge (.inl (Nat.le_refl _))) J (fun gbz=> ?_)
  refine Ops.weakX (T.hl.length+10) (whs (List.replicate (T.col.length+1) 0)) (Qd ..) (whs_zero (T.col.length+1)) ?_
  rw [Z0];refine Qv J J J (Qj (hK _ _ (Qz (Qy ?_))));clear hK K;refine Qx (fun K hK=> ?_);refine Qq J J J (Qq J J J (Q0 J J J J (QJ J J J fT0 J (QQ J J J J J lMat J (Qq J J J (Xh J J sMat J J J (X4 78 1 J J (Qt T.hl.length ((T.hl++ [kh gbz 0 (T.col.length+1) (T.col.length+1)]).map CT.ex) J J J J sMat (by simp) J (by omega) (by omega) (by simp) J ?_))))))));refine XY 81 1 (T.hl.length+1) J J (by simp) (by omega) (by decide) (fun g1 c1 hc1 hc1m=> ?_);refine Q0 J J J J (QJ J J J fT0 J (Xj J J J J J zMat (Nat.le_of_ble_eq_true J) (Qj (hK _ _ (Qz (Qy (Qy ?_)))))));clear hK K;refine Qx (fun K hK=> ?_);refine Qq J J J (Q0 J J J J (QJ J J J fT0 J (QQ J J J J J lMat J ?_)))
  have hfull2:∀k,k<(T.hl++ [kh gbz 0 (T.col.length+1) (T.col.length+1)]).length→∃gb,(T.hl++ [kh gbz 0 (T.col.length+1) (T.col.length+1)]).getD k default=kh gb 0 (T.col.length+1) (T.col.length+1):=fun k hk=>by
    have hmem:=getD_mem (z:=default) hk;rcases List.mem_append.1 hmem with h3|h3
    · exact hfull _ h3
    · exact ⟨gbz,by simpa using h3⟩
  refine ZK 1 (T.hl.length+1) J J J (by decide) (by simp) sMat.und J ?_
  refine Qq J J J (Qj (hK _ _ (Qz (Q3 ?_))));clear hK K
  refine Qs (α:=Nat × List Value) (fun x=>x.1≤T.hl.length+1∧x.2.length=T.hl.length+1∧∀k,x.1≤k→k<x.2.length→∃gb,x.2.getD k default=kh gb 0 (T.col.length+1) (T.col.length+1))
    (fun x=>[(0, .own 0),(1, .ct (intC art)),(5, .ct (intC T.bas.length)),(6, .ct (intC T.col.length)),(7, .ct (intC w0)),(87, .ct (.ex (kh g1 0 (T.hl.length+1) c1))),(88, .ct (intC ((T.hl.length+1:Nat):Int))),(89, .ct (intC x.1))])
    (fun x=>(0, .box 215 [.ex (kh g1 0 (T.hl.length+1) c1), .ex T.hB, .ex T.hC,boolC (decide (T.den<0)),natC T.den.natAbs])::(1, .rowx (kh g1 0 (T.hl.length+1) c1) 212 1 (x.2.map CT.ex))::(2, .rowx T.hB 3 1 (ints T.bas))::(3, .rowx T.hC 3 1 (ints T.col))::linesB 10 x.2 (insP T.bas.length T.col.length (T.rows++ [List.replicate (T.col.length+1) 0]) x.1))
    (fun x=>T.hl.length+1 - x.1) (0,T.hl++ [kh gbz 0 (T.col.length+1) (T.col.length+1)]) ⟨Nat.zero_le _,by simp,fun k _ hk=>hfull2 k hk⟩ (by exact Y9 (by dsimp only;rw [insP_zero];exact step_B2 hhl) ⟨rfl,rfl,rfl,rfl,rfl,rfl,rfl,rfl,trivial⟩) ?_
  rintro ⟨i,hlx⟩ ⟨hi,hhx,hfx⟩
  dsimp only at hi hhx hfx ⊢;have hil:=insP_len T.bas.length T.col.length (T.rows++ [List.replicate (T.col.length+1) 0]) i;refine Qy (Qx fun K hK=> ?_);refine Qk ilss J J J J (Qj (hK _ _ (Qz (Qy ?_))));clear hK K;refine Q2 J (fun h3=> ?_) (fun h3=> ?_)
  · have hi2:i<(T.rows++ [List.replicate (T.col.length+1) (0:Int)]).length:=by omega
    have ki:(i:Int).toNat*1=i:=by omega
    obtain ⟨gbi,hgi⟩:=hfx i (Nat.le_refl _) (by omega);have hat:=insP_at T.bas.length T.col.length (T.rows++ [List.replicate (T.col.length+1) 0]) i hi2;have hset:=insP_set T.bas.length T.col.length (T.rows++ [List.replicate (T.col.length+1) 0]) i hi2
    have hln:((T.rows++ [List.replicate (T.col.length+1) (0:Int)]).getD i []).length=T.col.length+1:=by
      rcases Nat.lt_or_ge i T.rows.length with h4|h4
      · rw [List.getD_eq_getElem?_getD,List.getElem?_append_left h4,←List.getD_eq_getElem?_getD];exact hF.row i h4
      · have:i=T.rows.length:=by omega
        subst this;simp [List.getD_eq_getElem?_getD]
    have hsetl:insL T.bas.length T.col.length i ((T.rows++ [List.replicate (T.col.length+1) (0:Int)]).getD i [])=((T.rows++ [List.replicate (T.col.length+1) (0:Int)]).getD i []).take T.col.length++insX T.bas.length i::((T.rows++ [List.replicate (T.col.length+1) (0:Int)]).getD i []).drop T.col.length:=rfl;generalize hline:(T.rows++ [List.replicate (T.col.length+1) (0:Int)]).getD i []=line at*;have hlg:=Xw (k:=10) (hl:=hlx) (zs:=insP T.bas.length T.col.length (T.rows++ [List.replicate (T.col.length+1) 0]) i) (i:=i) (by omega) (by omega);rw [hat,hgi] at hlg;generalize hcur:insP T.bas.length T.col.length (T.rows++ [List.replicate (T.col.length+1) 0]) i=cur at*;refine QW (Qz (Qy (Q3 (Qy (Qx fun K hK=> ?_)))));refine Qq J J J (Qp 1 (T.hl.length+1) J J J (by simp [hhx]) J sMat (by omega) (by omega) J ?_);rw [ki]
    refine QQ J J J J (Ze (by omega)) lWhs J ?_
    rw [hgi];refine Qv J J J (Qv J J J (Qj (hK _ _ (Qz (Qy ?_)))));clear hK K;refine Qx (fun K hK=> ?_);refine QV goof hof0 J J J J (Qf 4 J J zvWh J (by exact Z1 10 _ _ 4 (by decide)) J ?_);refine Qa 2 J J J J J szWh J J (Qj (hK _ _ (Qz (Qy (Qy ?_)))));clear hK K;refine Qx (fun K hK=> ?_);refine Qq J J J (Qq J J J (Qk ilss J J J J (Qj (hK _ _ (Qz ?_)))));clear hK K
    refine YJ (α:=Unit) (fun _=>True) (fun _=>[(0, .own 0),(1, .ct (intC art)),(5, .ct (intC T.bas.length)),(6, .ct (intC T.col.length)),(7, .ct (intC w0)),(11, .ct (intC i)),(12, .ct (.ex (kh gbi 0 (T.col.length+1) (T.col.length+1)))),(13, .own 4),(87, .ct (.ex (kh g1 0 (T.hl.length+1) c1))),(88, .ct (intC ((T.hl.length+1:Nat):Int))),(89, .ct (intC i))])
      (fun _=>(4, .box 211 (whCs (insX T.bas.length i)))::(0, .box 215 [.ex (kh g1 0 (T.hl.length+1) c1), .ex T.hB, .ex T.hC,boolC (decide (T.den<0)),natC T.den.natAbs])::(1, .rowx (kh g1 0 (T.hl.length+1) c1) 212 1 (hlx.map CT.ex))::(2, .rowx T.hB 3 1 (ints T.bas))::(3, .rowx T.hC 3 1 (ints T.col))::linesB 10 hlx cur) (fun _ _=> ?_) (fun KK hN=> ?_)
    rotate_left
    · refine Q2 J (fun h4=> ?_) (fun h4=> ?_)
      · have ex:insX T.bas.length i= -1:=by unfold insX;rw [if_pos (by omega)]
        refine Qx (fun K hK=> ?_);refine QV goof hofm J J J J (Qa 2 J J J J J szWh J J (Qj (hK _ _ ?_)));clear hK K;exact Xk hN () trivial (by exact Qu (by rw [ex];rfl) ⟨rfl,rfl,rfl,rfl,rfl,rfl,rfl,rfl,rfl,rfl,rfl,trivial⟩)
      · refine Qy (Qx fun K hK=> ?_);refine Qq J J J (Qq J J J (Qk (iadd (by omega) (by omega)) J J J J ?_));refine Qk ieql J J J J (Qj (hK _ _ (Qz ?_)));clear hK K;refine Q2 J (fun h5=> ?_) (fun h5=> ?_)
        · have ex:insX T.bas.length i=1:=by unfold insX;rw [if_neg (by omega),if_pos (by omega)]
          refine Qx (fun K hK=> ?_);refine QV goof hof1 J J J J (Qa 2 J J J J J szWh J J (Qj (hK _ _ ?_)));clear hK K;exact Xk hN () trivial (by exact Qu (by rw [ex];rfl) ⟨rfl,rfl,rfl,rfl,rfl,rfl,rfl,rfl,rfl,rfl,rfl,trivial⟩)
        · have ex:insX T.bas.length i=0:=by unfold insX;rw [if_neg (by omega),if_neg (by omega)]
          refine QW ?_
          exact Xk hN () trivial (by exact Qu (by rw [ex];rfl) ⟨rfl,rfl,rfl,rfl,rfl,rfl,rfl,rfl,rfl,rfl,rfl,trivial⟩)
    generalize hxx:insX T.bas.length i=xx at*;have hins:=(Insert_ok gbi (T.col.length+1) line T.col.length xx hln (by omega) (by omega)).nm (i+10) (fun _ _=> .inr J);refine Yy mixed [9,11] (.p 0 (.p 1 (.p 2 (.p 4 (.p 5 (.p 6 (.f 7 (.m 3 (.m 8 (.a 9 (.p 10 (.a 11 .done .non)) .non) .non) (.m 8 (.m 3 (.a 9 (.p 10 (.a 11 .done .non)) .non) (.a 9 (.m 3 (.p 10 (.a 11 .done .non)) .non) .non)) .non))))))))) (by kernel_rfl) (fun K hK=> ?_)
    refine (fun (cont:∀x:Nat × Nat,(T.col.length+2≤x.2∧x.2≤maxLen)→Go.Own.Fin _ [(0, .own 0),(1, .ct (intC art)),(5, .ct (intC T.bas.length)),(6, .ct (intC T.col.length)),(7, .ct (intC w0)),(87, .ct (.ex (kh g1 0 (T.hl.length+1) c1))),(88, .ct (intC ((T.hl.length+1:Nat):Int))),(89, .ct (intC i))]
      (bset ((i+10, .rowx (kh x.1 0 (T.col.length+2) x.2) 211 2 (whs (line.take T.col.length++xx::line.drop T.col.length)))::bdel ((4, .box 211 (whCs xx))::(0, .box 215 [.ex (kh g1 0 (T.hl.length+1) c1), .ex T.hB, .ex T.hC,boolC (decide (T.den<0)),natC T.den.natAbs])::(1, .rowx (kh g1 0 (T.hl.length+1) c1) 212 1 (hlx.map CT.ex))::(2, .rowx T.hB 3 1 (ints T.bas))::(3, .rowx T.hC 3 1 (ints T.col))::linesB 10 hlx cur) (i+10)) 1 (.rowx (kh g1 0 (T.hl.length+1) c1) 212 1 ((hlx.map CT.ex).set i (.ex (kh x.1 0 (T.col.length+2) x.2))))) K)=> ?_) (fun x hx=>hK _ _ ?_)
    rotate_left
    · obtain ⟨g2,c2⟩:=x;clear hK K;refine Qz (Qx fun K hK=> ?_)
      refine Qk (iadd (by omega) (by omega)) J J J J ?_
      refine Qq J J J (Qj (hK _ _ (Q6 ?_)));clear hK K
      refine Q9 (i+1,hlx.set i (kh g2 0 (T.col.length+2) c2)) (by dsimp only;omega) ⟨by dsimp only;omega,by dsimp only;rw [List.length_set];exact hhx,fun k hk1 hk2=> ?_⟩ (by exact Qe 4 (Y9 (by
        dsimp only
        rw [←hset,hsetl,List.map_set];exact upd_B4 (by omega) (by omega)) ⟨rfl,rfl,rfl,rfl,rfl,rfl,rfl,by simp only [Int.natCast_add];rfl,trivial⟩))
      dsimp only at hk1 hk2 ⊢;rw [List.length_set] at hk2;obtain ⟨gb,hgb⟩:=hfx k (by omega) hk2;exact ⟨gb,by rw [List.getD_eq_getElem?_getD,List.getElem?_set_ne (by omega),←List.getD_eq_getElem?_getD];exact hgb⟩
    clear hK;refine Qr (Qq J J J (Qj ?_));refine Qr (Q0 J J J J (Qj ?_));refine Qr (QJ J J J fT0 J (Qj ?_));refine Qr (Qq J J J (Qj ?_));refine Qr (Qq J J J (Qj ?_));refine Qr (Qq J J J (Qj ?_));refine Xp (Qc (n:=2) J J J J J lWh J (Qj ?_))
    refine XW ?_ ?_
    · refine QQ J J J J J lMat J (Qj ?_)
      refine XW ?_ Q8
      refine Zo (n:=2) J J sWhs J J (by decide) J (Qj ?_)
      refine Qn ?_ Q8
      refine Ops.call1 (i+10) goInsert hins J J J hbor (by exact hlg) (fun p hp=> ?_) (fun q j hq=> ?_) (fun _ _=> ?_);rotate_left;rotate_left
      · refine XY 113 (i+10) (T.col.length+2) J (Qd ..) (by rw [XV,List.length_append,List.length_cons,List.length_take,List.length_drop];omega) (by omega) (by decide) (fun g2 c2 hc2 hc2m=> ?_);rw [Z0];refine Qj (Qr (Qp 1 (T.hl.length+1) J J J (by simp [hhx]) J sMat (by omega) (by omega) J ?_));rw [ki];refine Qj (Qn (Xj J J J J J zWhs (by simp [Ent.cs,hhx];omega) (Qj ?_)) Q8);exact Xv (Y5 (cont (g2,c2) ⟨hc2,hc2m⟩) ⟨rfl,rfl,rfl,rfl,rfl,rfl,rfl,rfl,trivial⟩)
      · obtain ⟨k,hk,rfl⟩:=List.mem_map.1 hp
        obtain rfl:k=0:=by simpa using hk
        exact ⟨by simp,rfl⟩
      · rcases hq with hq|⟨o,hq⟩ <;>simp [Sl.ren] at hq;exact hq.symm
    · refine XW ?_ Q8
      refine Zo (n:=2) J J sWhs J J (by decide) J (Qj ?_)
      refine XW ?_ ?_
      · refine QQ J J J J J lMat J (Qj ?_)
        refine Qn ?_ Q8
        refine Ops.call1 (i+10) goInsert hins J J J hbor (by exact hlg) (fun p hp=> ?_) (fun q j hq=> ?_) (fun _ _=> ?_);rotate_left;rotate_left
        · refine XY 113 (i+10) (T.col.length+2) J (Qd ..) (by rw [XV,List.length_append,List.length_cons,List.length_take,List.length_drop];omega) (by omega) (by decide) (fun g2 c2 hc2 hc2m=> ?_);rw [Z0];refine Qj (Qr (Qp 1 (T.hl.length+1) J J J (by simp [hhx]) J sMat (by omega) (by omega) J ?_));rw [ki];refine Qj (Qn (Xj J J J J J zWhs (by simp [Ent.cs,hhx];omega) (Qj ?_)) Q8);exact Xv (Y5 (cont (g2,c2) ⟨hc2,hc2m⟩) ⟨rfl,rfl,rfl,rfl,rfl,rfl,rfl,rfl,trivial⟩)
        · obtain ⟨k,hk,rfl⟩:=List.mem_map.1 hp
          obtain rfl:k=0:=by simpa using hk
          exact ⟨by simp,rfl⟩
        · rcases hq with hq|⟨o,hq⟩ <;>simp [Sl.ren] at hq;exact hq.symm
      · refine Qn ?_ Q8
        refine Ops.call1 (i+10) goInsert hins J J J hbor (by exact hlg) (fun p hp=> ?_) (fun q j hq=> ?_) (fun _ _=> ?_);rotate_left;rotate_left
        · refine XY 113 (i+10) (T.col.length+2) J (Qd ..) (by rw [XV,List.length_append,List.length_cons,List.length_take,List.length_drop];omega) (by omega) (by decide) (fun g2 c2 hc2 hc2m=> ?_);rw [Z0];refine Qj (XW ?_ Q8);refine QQ J J J J J lMat J (Qj ?_);refine Qr (Qp 1 (T.hl.length+1) J J J (by simp [hhx]) J sMat (by omega) (by omega) J ?_);rw [ki];refine Qj (Qn (Xj J J J J J zWhs (by simp [Ent.cs,hhx];omega) (Qj ?_)) Q8);exact Xv (Y5 (cont (g2,c2) ⟨hc2,hc2m⟩) ⟨rfl,rfl,rfl,rfl,rfl,rfl,rfl,rfl,trivial⟩)
        · obtain ⟨k,hk,rfl⟩:=List.mem_map.1 hp
          obtain rfl:k=0:=by simpa using hk
          exact ⟨by simp,rfl⟩
        · rcases hq with hq|⟨o,hq⟩ <;>simp [Sl.ren] at hq;exact hq.symm
  have hi' :i=T.hl.length+1:=by omega
  subst hi'
  have hcurE:insP T.bas.length T.col.length (T.rows++ [List.replicate (T.col.length+1) 0]) (T.hl.length+1)=(insT T art).rows:=by rw [hhl];rfl
  rw [hcurE];rw [hcurE] at hil;refine Qm (Qz (Qy (Qx fun K hK=> ?_)));refine Qq J J J (Qq J J J (Q0 J J J J (QJ J J J fT2 J (QQ J J J J J lInts J (Qq J J J (Xh J J sInts J J J (X4 120 3 J J (Qt T.col.length (ints (T.col++ [art])) J J J J sInts (by simp) J (by omega) (by omega) (by rw [ZU];rfl) J ?_))))))));refine XY 123 3 (T.col.length+1) J J (by simp) (by omega) (by decide) (fun g3 c3 hc3 hc3m=> ?_);refine Q0 J J J J (QJ J J J fT2 J (Xj J J J J J zInts (Nat.le_of_ble_eq_true J) (Qj (hK _ _ (Qz (Qy ?_))))));clear hK K;refine Qx (fun K hK=> ?_);refine Qq J J J (Qq J J J (Qq J J J ?_));obtain ⟨H1,hH1⟩:∃H1:Tv,H1=⟨kh g1 0 (T.hl.length+1) c1,T.hB,kh g3 0 (T.col.length+1) c3,hlx,[],[],[],0⟩:=⟨_,rfl⟩
  have hH1l:H1.hl.length=(insT T art).rows.length:=by rw [hH1,hil,hhx];simp [hhl]
  have l1:(insT T art).rows.length=T.rows.length+1:=by rw [hil];simp
  have l3:(insT T art).col.length=T.col.length+1:=by simp [insT]
  have lE:=hE.lens;rw [Xe,pvt_bas,Z8,l1,l3,show (insT T art).bas=T.bas from rfl] at lE;obtain ⟨lE1,lE2,lE3⟩:=lE;have hGE:=hE.last;have hGE1:=hGE.wh (H:=H1) (by rw [hH1l,l1,lE1]);have hG1w:=hG1.wh hH1l;have hpv:=pivot_ok ((insT T art).wh H1) hG1w.fit hG1w.short hG1w.den hG1w.dens w0 T.col.length (by show w0<T.bas.length;omega) (by show T.col.length<(insT T art).col.length;rw [l3];omega);have hEw:=hE.wh (H:=H1) (by rw [Xe];exact hH1l);rw [←pvt_wh] at hEw;have hmx:=maximize_ok (pvt ((insT T art).wh H1) w0 T.col.length) (E.wh H1) (T.bas.length+1) sE kE hEw (by rw [Xe];show _<(insT T art).rows.length;rw [l1];omega)
  have hTeq:(insT T art).wh H1=⟨kh g1 0 (T.hl.length+1) c1,T.hB,kh g3 0 (T.col.length+1) c3,hlx,(insT T art).rows,T.bas,T.col++ [art],T.den⟩:=by rw [hH1];rfl
  refine X3 [] gopivot hpv J J J hbor (by rw [hTeq];rfl) J hfix (fun _ _=> ?_);refine Qj (hK _ _ (Qz (Qy ?_)));clear hK K;refine Qx (fun K hK=> ?_);refine Qq J J J (Qq J J J (Qk (iadd (by omega) (by omega)) J J J J ?_));refine X3 [] gomaximize hmx J J J hbor J J hfix (fun _ _=> ?_);have hRd:(E.wh H1).rows=E.rows:=rfl;have hBd:(E.wh H1).bas=E.bas:=rfl
  have km1:((T.bas.length:Int)+1).toNat*1=T.bas.length+1:=by omega
  have kl3:((T.col.length:Int)+1).toNat*2=(T.col.length+1)*2:=by omega
  have lH:H1.hl.length=T.rows.length+1:=by rw [hH1l,l1]
  have hwn:¬wrS T T.bas.length<0:=by rw [hwr];omega
  have hrE:=hGE.fit.row;rw [lE1,lE3] at hrE;have hrE1:=hrE (T.bas.length+1) (by omega);refine Qj (hK _ _ (Qz (Qy (Qy ?_))));clear hK K;refine Qx (fun K hK=> ?_);refine Qq J J J (Q0 J J J J (QJ J J J fT0 J (QQ J J J J J lMat J (Qq J J J (Qk (iadd (by omega) (by omega)) J J J J ?_)))))
  refine Qp 1 (T.rows.length+1) J J J (by rw [List.length_map];show H1.hl.length=_;omega) J sMat (by omega) (by omega) J ?_
  rw [km1]
  refine QQ J J J J (Ze (by show _<H1.hl.length;omega)) lWhs J ?_
  refine Qq J J J (Qk (iadd (by omega) (by omega)) J J J J ?_)
  refine Qp (T.bas.length+1+10) (T.col.length+2) J J (Xw (by show _<H1.hl.length;omega) (by show _<E.rows.length;omega)) (by rw [XV];show (E.rows.getD (T.bas.length+1) []).length*2=_;rw [hrE1]) J sWhs (by omega) (by omega) J ?_
  rw [kl3]
  refine ldWh J J J (Xw (by show _<H1.hl.length;omega) (by show _<E.rows.length;omega)) J (by show _<(E.rows.getD (T.bas.length+1) []).length;omega) lWh J ?_
  refine QV gosign (Y3 (E.at (T.bas.length+1) (T.col.length+1))) J J J J ?_
  have hRp:=R.piv;have hRf:=R.fit2;have hRo:=R.out
  have hout:stOut T E art=if E.at (T.bas.length+1) (T.col.length+1)<0 then E else stE3 E T.bas.length T.col.length art:=by unfold stOut;rw [if_neg hwn]
  have hres:stRes T E= !decide (E.at (T.bas.length+1) (T.col.length+1)<0):=by unfold stRes;rw [decide_eq_false hwn,Bool.false_or]
  generalize E.at (T.bas.length+1) (T.col.length+1)=vE at*;refine Qk ilss J J J J (Qj (hK _ _ (Qz ?_)));clear hK K;refine Q2 J (fun h4=> ?_) (fun h4=> ?_)
  · have h5:=sgn_lt.1 h4;rw [if_pos h5] at hout;rw [decide_eq_true h5] at hres;refine Qy (Qx fun K hK=> ?_);refine Qv J J J (Qj (hK _ _ (Qz (Q4 (QY ?_)))));clear hK K;refine YK H1 [_] rfl (QX J QZ) (by rw [hres];rfl) (fun j=>by rw [hout];rfl) (by rw [hout,lH,lE1])
  have h5:¬vE<0:=fun h=>h4 (sgn_lt.2 h)
  rw [if_neg h5] at hout;rw [decide_eq_false h5] at hres;have hRp:=hRp h5;have hRf:=hRf h5;have hRo:=hRo h5;have hIx:Ok Tryz.prog 203 [intsC E.bas,intC art] (intC (fIx E.bas art)):=Index_ints E.bas art (by omega);have bIx:=fIx_bd E.bas art;have bnz:=nzC_bd (E:=E) (last:=T.col.length) (art:=art);have hnzd:nzC E T.col.length art=idxI (fun x=>decide (x≠0)) ((E.rows.getD (fIx E.bas art).toNat []).take (T.col.length+1)):=rfl
  have hE2d:stE2 E T.col.length art=if fIx E.bas art<0 then E else pvt E (fIx E.bas art).toNat (nzC E T.col.length art).toNat:=rfl
  refine QW (Qz (Qy (Qy (Qx fun K hK=> ?_))));refine Qq J J J (Q0 J J J J (QJ J J J fT1 J (QQ J J J J J lInts J (Qq J J J (Ops.callRO 2 goIndex_ints hIx J J (fun a ρ w hI=> ?_) J J ?_)))))
  · have h1:=hI.readX (i:=2) (el:=3) (n:=1) (v:=H1.hB) (es:=E.bas.map fun x=>[intC x]) (by rw [ints_flat];rfl) (by simp) (by decide) hbor;have h2:a.eval (.tmp 151)=H1.hB:=hI.evx J;exact ⟨by rw [h2];exact h1,hI.evx J,trivial⟩
  generalize fIx E.bas art=rx at*;refine Qv J J J (Qj (hK _ _ (Qz (Qy ?_))));clear hK K;refine Qx (fun K hK=> ?_);refine Qq J J J (Qk igeq J J J J (Qj (hK _ _ (Qz ?_))));clear hK K;have lE2' :=stE2_lens E T.col.length art;have hE3d:stE3 E T.bas.length T.col.length art={stE2 E T.col.length art with rows:=delP (fIx (stE2 E T.col.length art).col art).toNat ((stE2 E T.col.length art).rows.take (T.bas.length+1)) (T.bas.length+1),col:=(stE2 E T.col.length art).col.eraseIdx (fIx (stE2 E T.col.length art).col art).toNat,hl:=(stE2 E T.col.length art).hl.take (T.bas.length+1)}:=rfl;generalize hE2:stE2 E T.col.length art=E2 at*
  refine YJ (α:=Unit) (fun _=>True) (fun _=>[(0, .own 0),(1, .ct (intC art)),(5, .ct (intC T.bas.length)),(6, .ct (intC T.col.length))])
    (fun _=>(0, .box 215 [.ex (kh g1 0 (T.hl.length+1) c1), .ex T.hB, .ex (kh g3 0 (T.col.length+1) c3),boolC (decide (E2.den<0)),natC E2.den.natAbs])::(1, .rowx (kh g1 0 (T.hl.length+1) c1) 212 1 (hlx.map CT.ex))::(2, .rowx T.hB 3 1 (ints E2.bas))::(3, .rowx (kh g3 0 (T.col.length+1) c3) 3 1 (ints E2.col))::linesB 10 hlx E2.rows) (fun _ _=> ?_) (fun KK hN=> ?_)
  rotate_left
  · refine Q2 J (fun h6=> ?_) (fun h6=> ?_)
    · obtain ⟨q,rfl⟩:∃q:Nat,rx=q:=⟨rx.toNat,by omega⟩;have hnz:=hRp h6;rw [Int.toNat_natCast] at hnzd;rw [if_neg (by omega),Int.toNat_natCast] at hE2d
      have hq2:q<T.rows.length+1:=by omega
      have hrq:=hrE q (by omega)
      have kq:(q:Int).toNat*1=q:=by omega
      obtain ⟨s2,hs2⟩:∃s2:Nat,nzC E T.col.length art=s2:=⟨(nzC E T.col.length art).toNat,by omega⟩;rw [hs2] at hnzd bnz;rw [hs2,Int.toNat_natCast] at hE2d;have hpv2:=pivot_ok (E.wh H1) hGE1.fit hGE1.short hGE1.den hGE1.dens q s2 (by show q<E.bas.length;omega) (by show s2<E.col.length;omega);have hlg:bget (tabB (E.wh H1)) (q+10)=some (.rowx ((E.wh H1).hl.getD q default) 211 2 (whs (E.rows.getD q []))):=Xw (by show q<H1.hl.length;omega) (by show q<E.rows.length;omega);refine Qy (Qx fun K hK=> ?_);refine Qq J J J (Q0 J J J J (QJ J J J fT0 J (QQ J J J J J lMat J (Qq J J J (Qp 1 (T.rows.length+1) J J J (by rw [List.length_map];show H1.hl.length=_;omega) J sMat (by omega) (by omega) J ?_)))));rw [kq]
      refine QQ J J J J (Ze (by show _<H1.hl.length;omega)) lWhs J ?_
      refine Ops.hand (q+10) (T.col.length+2) (by exact hlg) (by rw [XV,hrq]) (by omega) (by decide) (fun gb cc hh hcc hccm=> ?_);rw [hh] at hlg;rw [hh];refine Qq J J J (Qk (iadd (by omega) (by omega)) J J J J ?_)
      refine Ya (T.col.length+1) J J J (by omega) sWhs (by omega) J ?_
      refine Ops.callRO (q+10) (u:= .int .i64 (s2:Int)) goIndexFunc_whs (by
        have:=IndexFunc_whs ((E.rows.getD q []).take (T.col.length+1)) 205 (fun x=>decide (x≠0)) gostart1 (fun x _=>start1_ok x) (by rw [List.length_take];omega);rw [←hnzd] at this
        exact this) J (by exact hlg) (fun a ρ w hI=> ?_) J J ?_
      · have h1:=hI.readK (i:=q+10) (es:=(E.rows.getD q []).map whCs) (T.col.length+1) (by exact hlg) (by rw [List.length_map,hrq]) (by simp) (by decide) (by omega) (by omega) hbor;rw [←List.map_take] at h1;have h2:a.eval (.tmp 165)=kh gb 0 (T.col.length+1) cc:=hI.evx J;exact ⟨by rw [h2];exact h1,hI.evx J,trivial⟩
      refine Qv J J J (Qj (hK _ _ (Qz ?_)));clear hK K;refine Qx (fun K hK=> ?_);refine Qq J J J (Qq J J J (Qq J J J (X3 [] gopivot hpv2 J J J hbor J J hfix (fun _ _=> ?_))));refine Qj (hK _ _ ?_);clear hK K;exact Xk hN () trivial (by exact Qu (by rw [hE2d,hH1];rfl) ⟨rfl,rfl,rfl,rfl,trivial⟩)
    · rw [if_pos (by omega)] at hE2d
      refine QW ?_
      exact Xk hN () trivial (by exact Qu (by rw [hE2d,hH1];rfl) ⟨rfl,rfl,rfl,rfl,trivial⟩)
  have hr2:=hRf.row;rw [lE2'.1,lE2'.2.2,lE1,lE3] at hr2;exact start_tail T E E2 art g1 c1 g3 c3 hlx S w ρ0 hbor hout (by rw [hres];rfl) hE3d hRo (fun i hi=>by rw [hr2 i (by omega)]) (by omega) (by omega) (by omega) (by omega) hc1 hc3 (by omega) (by omega)
end Go.Proofs.YtojkdfilabmafaaGreat
namespace Go.Proofs.YtojkdfilabmafaaGreat
open Go.Own Go.Limbs Go.Det
theorem wrS_wh(T H:Tv):∀i,wrS (T.wh H) i=wrS T i
  |0=>rfl
  |i+1=>by simp only [wrS,wrS_wh T H i];rfl
theorem ptS_wh(T H:Tv)(n:Nat):∀i,ptS (T.wh H) n i=ptS T n i
  |0=>rfl
  |i+1=>by simp only [ptS,ptS_wh T H n i];rfl
theorem duS_wh(T H:Tv)(n m gi:Nat):∀i,duS (T.wh H) n m gi i=duS T n m gi i
  |0=>rfl
  |i+1=>by simp only [duS,duS_wh T H n m gi i];rfl
theorem raS_wh(T H:Tv)(n s:Nat):∀i,raS (T.wh H) n s i=raS T n s i
  |0=>rfl
  |i+1=>by simp only [raS,raS_wh T H n s i];rfl
theorem Fit.wh{T H:Tv}(F:Fit T)(h:H.hl.length=T.rows.length):Fit (T.wh H):=⟨h,F.row,F.bas,F.few,F.thin⟩
theorem stE2_wh(E H:Tv)(last:Nat)(art:Int):stE2 (E.wh H) last art=(stE2 E last art).wh H:=by
  unfold stE2;show (if fIx E.bas art<0 then E.wh H else pvt (E.wh H) (fIx E.bas art).toNat (nzC E last art).toNat)=_;split
  · rfl
  · rfl
theorem stE3_wh(E H H1:Tv)(m last:Nat)(art:Int):(stE3 (E.wh H) m last art).wh H1=(stE3 E m last art).wh H1:=by
  unfold stE3;simp only [stE2_wh];rfl
theorem stRes_wh(T E H H' :Tv):stRes (T.wh H) (E.wh H')=stRes T E:=by
  unfold stRes;rw [show (T.wh H).bas=T.bas from rfl,wrS_wh];rfl
theorem stOut_wh(T E H H' H1:Tv)(art:Int):(stOut (T.wh H) (E.wh H') art).wh H1=(stOut T E art).wh H1:=by
  unfold stOut;rw [show (T.wh H).bas=T.bas from rfl,wrS_wh,show (T.wh H).col=T.col from rfl,show (E.wh H').at (T.bas.length+1) (T.col.length+1)=E.at (T.bas.length+1) (T.col.length+1) from rfl];split
  · rfl
  · split
    · rfl
    · exact stE3_wh E H' H1 _ _ art
theorem stOut_rows(T E H H' :Tv)(art:Int):(stOut (T.wh H) (E.wh H') art).rows.length=(stOut T E art).rows.length:=by
  have:=congrArg (fun X:Tv=>X.rows.length) (stOut_wh T E H H' T art);exact this
theorem StartRun.wh{T E:Tv}{art:Int}(h:StartRun T art E)(H:Tv)(hl:H.hl.length=T.rows.length):StartRun (T.wh H) art (E.wh {H with hl:=H.hl++ [default]}):=by
  have e1:(insT (T.wh H) art)=(insT T art).wh {H with hl:=H.hl++ [default]}:=rfl
  have hl1:({H with hl:=H.hl++ [default]}:Tv).hl.length=(insT T art).rows.length:=by
    show (H.hl++ [default]).length=(insP _ _ _ _).length;rw [insP_len];simp [hl]
  obtain ⟨s,k,hr⟩:=h.run;have lE:=hr.lens;rw [Xe] at lE;refine ⟨by rw [show (T.wh H).bas=T.bas from rfl,wrS_wh];exact h.worst,by rw [e1];exact h.gd.wh hl1,⟨s,k,?_⟩,h.piv,fun h1=> ?_,fun h1=> ?_⟩
  · rw [show (T.wh H).bas=T.bas from rfl,wrS_wh,e1];exact hr.wh (by rw [Xe];exact hl1)
  · rw [stE2_wh]
    refine (h.fit2 h1).wh ?_
    rw [(stE2_lens E _ art).1,lE.1];exact hl1
  · rw [stE2_wh];exact h.out h1
structure Oc where
  kind : Int
  value : Fr
  point : List Fr
  ray : List Fr
  dual : List Fr
def frz0 : Fr := ⟨false, 0, 0⟩
def ocOf (n m : Nat) (T E F : Tv) (s : Int) : Oc :=
  if stRes T E = false then ⟨3, frz0, [], [], (duS E n m (m + 1) E.col.length).map ofQ⟩
  else if 0 ≤ s then ⟨2, frz0, (ptS F n F.bas.length).map ofQ, (raS F n s.toNat F.bas.length).map ofQ, []⟩
  else ⟨1, ofQ (shq (F.at m F.col.length) F.den), (ptS F n F.bas.length).map ofQ, [], (duS F n m m F.col.length).map ofQ⟩
structure SolRun (n : Nat) (rs : List Rw) (c : List Int) (T E F : Tv) (s : Int) : Prop where
  beg : Beg n rs c T
  start : 0 ≤ wrS T rs.length → StartRun T ((n + rs.length : Nat) : Int) E
  eg : stRes T E = false → Gd E ∧ E.rows.length = rs.length + 2 ∧ ∀ i, 0 ≤ E.col.getD i 0
  run : stRes T E = true → ∃ k, RunOk rs.length F s k (stOut T E ((n + rs.length : Nat) : Int))
  fr : stRes T E = true → F.rows.length = rs.length + 1 ∧ (∀ i, 0 ≤ F.col.getD i 0) ∧ (∀ i, 0 ≤ F.bas.getD i 0) ∧ s < F.col.length ∧ -1 ≤ s
def ptl (n : Nat) (X : Nat → Int) (D : Int) : List Fr := (List.range n).map fun v => ofQ (shq (X v) D)
theorem list_range{α:Type}{l:List α}{n:Nat}{f:Nat→α}{z:α}(hl:l.length=n)(h:∀v,v<n→l.getD v z=f v):l=(List.range n).map f:=by
  subst hl;rw [←Yu l z];rw [List.length_map,List.length_range]
  exact List.map_congr_left fun v hv=>h v (by simpa using hv)
def Kt (m : Nat) : Nat := (m + 2) * (4503599627370496 * (fact (m + 2) * 1048576 ^ (m + 2)))
inductive Sol (n : Nat) (rs : List Rw) (c : List Int) : Oc → Prop
  | opt (D : Int) (X Y : Nat → Int) (val : Int) (hX : Feas n rs D X) (hv : sm (fun j => c.getD j 0 * X j) n = val) (hY : Dual n rs c D Y) (hw : sm (fun i => cb rs i * Y i) rs.length = val)
      (b1 : D.natAbs ≤ Kt rs.length) (b2 : ∀ v, v < n → (X v).natAbs ≤ Kt rs.length) (b3 : ∀ i, i < rs.length → (Y i).natAbs ≤ Kt rs.length) (b4 : val.natAbs ≤ Kt rs.length) : Sol n rs c ⟨1, ofQ (shq val D), ptl n X D, [], ptl rs.length Y D⟩
  | unb (D : Int) (X Z : Nat → Int) (hX : Feas n rs D X) (hZ : Ray n rs c D Z)
      (b1 : D.natAbs ≤ Kt rs.length) (b2 : ∀ v, v < n → (X v).natAbs ≤ Kt rs.length) (b3 : ∀ v, v < n → (Z v).natAbs ≤ Kt rs.length) : Sol n rs c ⟨2, frz0, ptl n X D, ptl n Z D, []⟩
  | emp (D : Int) (Y : Nat → Int) (hY : Refu n rs D Y) (b1 : D.natAbs ≤ Kt rs.length) (b3 : ∀ i, i < rs.length → (Y i).natAbs ≤ Kt rs.length) : Sol n rs c ⟨3, frz0, [], [], ptl rs.length Y D⟩
section
variable {n : Nat} {rs : List Rw} {c : List Int} {W : Nat} {T : Tv} {bs : List Nat}
theorem dT_Kt(h:LpOk n rs c){i:Nat}{x:Vec}(hl:bs.length=rs.length+2)(hi:i<rs.length+2)(hx2:x=rhsQ rs∨∃v,x=colA n rs c v):(dT (colA n rs c) bs i x).natAbs≤Kt rs.length:=by
  have dtb:∀l:List Vec,l.length=rs.length+2→(∀x∈l,∀i,(x i).natAbs≤1048576)→(dt l).natAbs≤fact (rs.length+2)*1048576 ^ (rs.length+2):=fun l hl hA=>by
    have h1:=dt_bd l hA
    rwa [hl] at h1
  unfold Kt;rcases hx2 with rfl|⟨v,rfl⟩
  · have e:rhsQ rs=comb (rhsQ rs) Go.Det.unit (rs.length+2):=by
      funext j
      unfold comb;by_cases hj:j<rs.length+2
      · rw [Yj hj fun k _ hk=>by simp [Go.Det.unit,Ne.symm hk]];simp [Go.Det.unit]
      · rw [rhsQ_V j (by omega),ZV fun k hk=>by rw [show Go.Det.unit k j=0 from if_neg (by omega),Int.mul_zero]]
    have e2:dT (colA n rs c) bs i (rhsQ rs)=sm (fun k=>rhsQ rs k*dt ((cols (colA n rs c) bs).set i (Go.Det.unit k))) (rs.length+2):=by
      unfold dT
      conv=>lhs;rw [e]
      exact Yw (by rw [Zu];omega) _ _ _
    rw [e2]
    refine sm_natAbs fun k _=> ?_
    rw [Int.natAbs_mul]
    refine Nat.mul_le_mul ?_ (dtb _ (by rw [List.length_set,Zu];exact hl) fun x hx i=> ?_)
    · unfold rhsQ;split
      · rename_i h2;exact h.bb _ (rs_mem h2)
      · decide
    · rcases mem_set_or hx with h3|h3
      · exact cols_bd h h3 i
      · rw [h3];unfold Go.Det.unit;split <;>decide
  · refine Nat.le_trans (dtb _ (by rw [List.length_set,Zu];exact hl) fun x hx i=> ?_) ?_
    · rcases mem_set_or hx with h3|h3
      · exact cols_bd h h3 i
      · rw [h3];exact colA_bd h v i
    · exact Nat.le_trans (Nat.le_mul_of_pos_left _ (by decide)) (Nat.le_mul_of_pos_left _ (by omega))
theorem sgn_le1(d:Int):d.sign.natAbs≤1:=by rw [Int.natAbs_sign];split <;>omega
theorem tt_Kt(h:LpOk n rs c){i:Nat}{x:Vec}(hl:bs.length=rs.length+2)(hi:i<rs.length+2)(hx2:x=rhsQ rs∨∃v,x=colA n rs c v):(tt (colA n rs c) bs i x).natAbs≤Kt rs.length:=by
  unfold tt;rw [Int.natAbs_mul];have h1:=Nat.mul_le_mul (sgn_le1 (dD (colA n rs c) bs)) (dT_Kt h hl hi hx2);omega
theorem den_Kt(h:LpOk n rs c)(hP:Ph n rs c W T bs):(Go.Det.den (colA n rs c) bs).natAbs≤Kt rs.length:=by
  have:=tt_Kt h (i:=rs.length) hP.bas.len (by omega) (.inr ⟨bs.getD rs.length 0,rfl⟩)
  rwa [tt_own hP.bas.len (by omega)] at this
theorem vx_Kt(h:LpOk n rs c)(hP:Ph n rs c W T bs){x:Vec}(hx2:x=rhsQ rs∨∃v,x=colA n rs c v)(v:Nat):(vx n rs c bs x v).natAbs≤Kt rs.length:=by
  by_cases hb:∃k,k<rs.length∧bs.getD k 0=v
  · obtain ⟨k,hk,rfl⟩:=hb;rw [vx_row hP hk];exact tt_Kt h hP.bas.len (by omega) hx2
  · rw [vx_out fun k hk e=>hb ⟨k,hk,e⟩];exact Nat.zero_le _
theorem lp_sol(hL:LpOk n rs c):∃T E F s,SolRun n rs c T E F s∧Sol n rs c (ocOf n rs.length T E F s):=by
  have hS:=lp_sys hL
  let T:Tv:=⟨.slice none 0 0, .slice none 0 0, .slice none 0 0,List.replicate (rs.length+1) default,(rs.map fun r=>lnOf n r.cs r.b)++ [lnOf n (c.map fun x=> -x) 0],rng n rs.length,rng 0 n,1⟩
  have hB:Beg n rs c T:=⟨rfl,rfl,rfl,rfl,by show (List.replicate _ _).length=_;simp [T]⟩
  have hbl:T.bas.length=rs.length:=by rw [hB.bas,X0]
  have hcl:T.col.length=n:=by rw [hB.col,X0]
  obtain ⟨E,hst,hE⟩:=hB.start hL;generalize T=T at*
  have second:∀P bs,Ph n rs c (n+rs.length) P bs→P.rows.length=rs.length+1→P.col.length=n→stOut T E ((n+rs.length:Nat):Int)=P→stRes T E=true→
      ∃F s,SolRun n rs c T E F s∧Sol n rs c (ocOf n rs.length T E F s):=by
    intro P bs hP hPr hPc hout hres;obtain ⟨k,F,s,bf,hR,hG,hEn,hr,hj⟩:=hP.good.ends hS (g:=rs.length) (Nat.le_refl _) (by rw [hPr];omega) (hP.small (Nat.le_refl _));have hF:Ph n rs c (n+rs.length) F bf:=⟨hG,by rw [hj _ (Nat.le_refl _)];exact hP.z,by rw [hj _ (by omega)];exact hP.w⟩;have hV:=hG.view;have hlen:=hR.lens;have hcol:∀i,0≤F.col.getD i 0:=hV.colv
    have hbas:∀i,0≤F.bas.getD i 0:=fun i=>by
      by_cases h1:i<rs.length
      · rw [hV.basv i h1];omega
      · rw [getD_ge (by rw [hV.basl];omega)];exact Int.le_refl _
    have hpt:(ptS F n F.bas.length).map ofQ=ptl n (vx n rs c bf (rhsQ rs)) (Go.Det.den (colA n rs c) bf):=by
      rw [list_range (ptS_len F n _) (fun v hv=>hF.pt_at hv),List.map_map];rfl
    have hpo:=hF.point;have hdK:=den_Kt hL hF
    have hvK:=fun v=>vx_Kt hL hF (.inl J) v
    rcases hEn with ⟨hs,h1⟩|⟨e,hs,he,h1,h2⟩
    · refine ⟨F,s,⟨hB,hst,fun h=>(by rw [hres] at h;cases h),fun _=>⟨k,by rw [hout];exact hR⟩,fun _=>⟨by rw [hr,hPr],hcol,hbas,by rw [hs];omega,by rw [hs];decide⟩⟩,?_⟩;have hdu:=hF.dual h1
      have e1:ocOf n rs.length T E F s=⟨1,ofQ (shq (F.at rs.length F.col.length) F.den),(ptS F n F.bas.length).map ofQ,[],(duS F n rs.length rs.length F.col.length).map ofQ⟩:=by
        unfold ocOf;rw [if_neg (by rw [hres];decide),if_neg (by rw [hs];decide)]
      have hdl:(duS F n rs.length rs.length F.col.length).map ofQ=ptl rs.length (yx n rs c bf rs.length) (Go.Det.den (colA n rs c) bf):=by
        rw [list_range (duS_len F n rs.length rs.length _) (fun i hi=>hF.du_at (Nat.le_refl _) (Nat.le_refl _) (by rw [hr,hPr];omega) hi),List.map_map];rfl
      rw [e1,hpt,hdl,hV.rhs rs.length (by rw [hr,hPr];omega),hV.den];exact .opt _ _ _ _ hpo.1 hpo.2 hdu.1 hdu.2 hdK (fun v _=>hvK v) (fun i _=>tt_Kt hL hF.bas.len (by omega) (.inr ⟨_,rfl⟩)) (tt_Kt hL hF.bas.len (by omega) (.inl J))
    · refine ⟨F,s,⟨hB,hst,fun h=>(by rw [hres] at h;cases h),fun _=>⟨k,by rw [hout];exact hR⟩,fun _=>⟨by rw [hr,hPr],hcol,hbas,by rw [hs];omega,by rw [hs];omega⟩⟩,?_⟩;have hcW:=hG.cov.col e he;have hcn:=hcol e;obtain ⟨v0,hv0⟩:∃v0:Nat,F.col.getD e 0=v0:=⟨(F.col.getD e 0).toNat,by omega⟩;rw [hv0,Int.toNat_natCast] at h1 h2
      have hnb:∀k,k<rs.length→bf.getD k 0≠v0:=fun k hk e2=>by have:=hG.cov.dis e k he hk;omega
      have hra:=hF.ray (s:=v0) (by omega) hnb h1 h2
      have e1:ocOf n rs.length T E F s=⟨2,frz0,(ptS F n F.bas.length).map ofQ,(raS F n e F.bas.length).map ofQ,[]⟩:=by
        unfold ocOf;rw [if_neg (by rw [hres];decide),if_pos (by omega),hs,Int.toNat_natCast]
      have hrl:(raS F n e F.bas.length).map ofQ=ptl n (zx n rs c bf v0) (Go.Det.den (colA n rs c) bf):=by
        rw [list_range (raS_len F n e _) (fun v hv=>hF.ra_at he hv0 hv),List.map_map];rfl
      rw [e1,hpt,hrl];refine .unb _ _ _ hpo.1 hra hdK (fun v _=>hvK v) (fun v _=> ?_);have hb:=vx_Kt hL hF (x:=colA n rs c v0) (.inr ⟨_,rfl⟩) v;unfold zx;by_cases h3:v=v0
      · rw [if_pos h3,h3,vx_out hnb,Int.sub_zero];exact hdK
      · rw [if_neg h3];omega
  cases hE with
  |keep hw h hc=>
    have hout:stOut T E ((n+rs.length:Nat):Int)=T:=by unfold stOut;rw [hbl,if_pos hw]
    have hres:stRes T E=true:=by unfold stRes;rw [hbl,decide_eq_true hw];rfl
    obtain ⟨F,s,h1,h2⟩:=second T _ h hB.len hc hout hres;exact ⟨T,E,F,s,h1,h2⟩
  |none bs hw h hv ha=>
    have hres:stRes T E=false:=by unfold stRes;rw [hbl,hcl,decide_eq_false (by omega),decide_eq_true ha];rfl
    have hP:=h.ph;have hV:=hP.good.view
    have e1:ocOf n rs.length T E E 0=⟨3,frz0,[],[],(duS E n rs.length (rs.length+1) E.col.length).map ofQ⟩:=by
      unfold ocOf;rw [if_pos hres]
    have hdl:(duS E n rs.length (rs.length+1) E.col.length).map ofQ=ptl rs.length (yx n rs c bs (rs.length+1)) (Go.Det.den (colA n rs c) bs):=by
      rw [list_range (duS_len E n rs.length (rs.length+1) _) (fun i hi=>hP.du_at (by omega) (by omega) (by rw [h.rows];omega) hi),List.map_map];rfl
    refine ⟨T,E,E,0,⟨hB,hst,fun _=>⟨hV.gd hS hP.good.hl hP.good.few hP.good.thin,h.rows,hV.colv⟩,fun h1=>(by rw [hres] at h1;cases h1),fun h1=>(by rw [hres] at h1;cases h1)⟩,?_⟩;rw [e1,hdl];exact .emp _ _ (h.refu hv) (den_Kt hL hP) (fun i _=>tt_Kt hL hP.bas.len (by omega) (.inr ⟨_,rfl⟩))
  |some bs hw ha h hc hr=>
    have hout:stOut T E ((n+rs.length:Nat):Int)=stE3 E rs.length n ((n+rs.length:Nat):Int):=by unfold stOut;rw [hbl,hcl,if_neg (by omega),if_neg ha]
    have hres:stRes T E=true:=by unfold stRes;rw [hbl,hcl,decide_eq_false ha];simp
    obtain ⟨F,s,h1,h2⟩:=second _ _ h hr hc hout hres;exact ⟨T,E,F,s,h1,h2⟩
theorem sm_mul_r(f:Nat→Int)(c:Int)(n:Nat):sm (fun k=>f k*c) n=sm f n*c:=by
  rw [Xa (g:=fun k=>c*f k) fun k _=>Int.mul_comm _ _,Yz,Int.mul_comm]
theorem comb_swap(rs:List Rw)(X Y:Nat→Int)(n:Nat):sm (fun j=>sm (fun i=>ca rs i j*Y i) rs.length*X j) n=sm (fun i=>Y i*sm (fun j=>ca rs i j*X j) n) rs.length:=by
  rw [Xa (g:=fun j=>sm (fun i=>ca rs i j*Y i*X j) rs.length) fun j _=>(sm_mul_r _ _ _).symm];rw [sm_swap (fun i j=>ca rs i j*Y i*X j) rs.length n]
  exact Xa fun i _=>by
    rw [←Yz]
    exact Xa fun j _=>by grind
theorem weak{D D' :Int}{X Y:Nat→Int}(hX:Feas n rs D X)(hY:Dual n rs c D' Y):D' *sm (fun j=>c.getD j 0*X j) n≤D*sm (fun i=>cb rs i*Y i) rs.length:=by
  have h1:D' *sm (fun j=>c.getD j 0*X j) n≤sm (fun j=>sm (fun i=>ca rs i j*Y i) rs.length*X j) n:=by
    rw [←Yz]
    refine sm_le fun j hj=> ?_
    have:=Int.mul_le_mul_of_nonneg_right (hY.col j hj) (hX.nn j hj);rw [←Int.mul_assoc];exact this
  rw [comb_swap] at h1
  refine Int.le_trans h1 ?_
  rw [←Yz]
  refine sm_le fun i hi=> ?_
  have:=Int.mul_le_mul_of_nonneg_left (hX.row i hi) (hY.nn i hi)
  have e:Y i*(D*cb rs i)=D*(cb rs i*Y i):=by grind
  rw [←e];exact this
theorem no_refu{D D' :Int}{X Y:Nat→Int}(hX:Feas n rs D X)(hY:Refu n rs D' Y):False:=by
  have h1:0≤sm (fun j=>sm (fun i=>ca rs i j*Y i) rs.length*X j) n:=sm_nonneg fun j hj=>Int.mul_nonneg (hY.col j hj) (hX.nn j hj)
  rw [comb_swap] at h1
  have h2:sm (fun i=>Y i*sm (fun j=>ca rs i j*X j) n) rs.length≤D*sm (fun i=>cb rs i*Y i) rs.length:=by
    rw [←Yz]
    refine sm_le fun i hi=> ?_
    have:=Int.mul_le_mul_of_nonneg_left (hX.row i hi) (hY.nn i hi)
    have e:Y i*(D*cb rs i)=D*(cb rs i*Y i):=by grind
    rw [←e];exact this
  have h3:=Int.mul_neg_of_pos_of_neg hX.den hY.neg;omega
theorem no_ray{D D' :Int}{Z Y:Nat→Int}(hZ:Ray n rs c D Z)(hY:Dual n rs c D' Y):False:=by
  have h1:D' *sm (fun j=>c.getD j 0*Z j) n≤sm (fun j=>sm (fun i=>ca rs i j*Y i) rs.length*Z j) n:=by
    rw [←Yz]
    refine sm_le fun j hj=> ?_
    have:=Int.mul_le_mul_of_nonneg_right (hY.col j hj) (hZ.nn j hj);rw [←Int.mul_assoc];exact this
  rw [comb_swap] at h1
  have h2:sm (fun i=>Y i*sm (fun j=>ca rs i j*Z j) n) rs.length≤sm (fun _=>0) rs.length:=sm_le fun i hi=>Int.mul_nonpos_of_nonneg_of_nonpos (hY.nn i hi) (hZ.row i hi)
  rw [ZV (f:=fun _=>0) fun _ _=>rfl] at h2;have h3:=Int.mul_pos hY.den hZ.goal;omega
end
end Go.Proofs.YtojkdfilabmafaaGreat
namespace Go.Proofs.YtojkdfilabmafaaGreat
open Go.Own Go.Limbs
attribute [local irreducible] St Ops Go.Own.Fin Ok
def intV (n : Nat) : Int := if n ≤ 4611686018427387904 then n else 0
def intE (n : Nat) : Int := if n ≤ 4611686018427387904 then 0 else 1
set_option maxHeartbeats 4000000 in
theorem Int_any(n:Nat)(hl:(limbs n).length≤200):Ok Tryz.prog 213 [natC n] (.fr (tupT [intC (intV n),intC (intE n)])):=by
  by_cases hn:n≤4611686018427387904
  · have:=Int_ok n hn;unfold intV intE;rw [if_pos hn,if_pos hn];exact this
  have hv0:intV n=0:=if_neg hn;have he0:intE n=1:=if_neg hn
  refine Ok.enter Tryz.func213 J _ Tryz.ntmps213 J ?_
  intro S w;refine Qy (Qx fun K hK=> ?_);refine Qv J J J (Qv J J J (Qj (hK _ _ (Qz (Qy ?_)))));clear hK K;refine Qx (fun K hK=> ?_);refine Qv J J J (Qj (hK _ _ (Qz (Qy (Qy ?_)))));clear hK K;refine Qx (fun K hK=> ?_);refine Qq J J J (Qh J J sNat.und (List.length_map ..) J (Qk (isub (by omega) (by omega)) J J J J ?_));refine Qv J J J (Qj (hK _ _ (Qz (Q3 ?_))));clear hK K
  refine Qs (α:=Nat × Int) (fun s=>s.1≤(limbs n).length∧0≤s.2∧s.2≤4611686018427387904∧s.2*BB ^ s.1+pre (limbs n) s.1=n)
    (fun s=>[(0, .ct (natC n)),(4, .ct (intC s.2)),(5, .ct (intC ((s.1:Int) - 1)))]) (fun _=>[]) (fun s=>s.1) ((limbs n).length,0) ⟨Nat.le_refl _,Int.le_refl _,by dsimp only;decide,by dsimp only;rw [val_eq_pre];simp⟩ (by exact Qu J ⟨rfl,rfl,rfl,trivial⟩) ?_
  rintro ⟨q,v⟩ ⟨hq,hv,hvm,hvq⟩
  dsimp only at hq hv hvm hvq ⊢;refine Qy (Qy (Qx fun K hK=> ?_));refine Qq J J J (Qk igeq J J J J (Qj (hK _ _ (Qz ?_))));clear hK K;refine Q2 J (fun h=> ?_) (fun h=> ?_)
  · obtain ⟨i,rfl⟩:∃i,q=i+1:=⟨q - 1,by omega⟩
    have e1:(((i+1:Nat):Int) - 1)=(i:Int):=by omega
    have e2:(i:Int).toNat=i:=Int.toNat_natCast i;have bx:=(X2 n).get i;simp only [BB] at bx;rw [X5,Int.pow_succ] at hvq;rw [e1];refine QW (Qz (Qy (Q3 (Qy (Qy (Qx fun K hK=> ?_))))));refine Qq J J J (Qq J J J (Qq J J J (Xx J J J sNat (by omega) (Xs (by omega) (by omega)) J ?_)))
    refine X1 J J J lInt J ?_
    rw [e2]
    refine Qk (isub (by omega) (by omega)) J J J J ?_
    refine Qk ishr30 J J J J (Qk igtr J J J J (Qj (hK _ _ (Qz ?_))));clear hK K;refine Q2 J (fun h2=> ?_) (fun h2=> ?_)
    · refine Qy (Qx fun K hK=> ?_);refine Qv J J J (Qv J J J (Qj (hK _ _ (Qz (Q4 (QY (Qb (QY (QY (Qb (QY ?_)))))))))));clear hK K;refine Q1 [_,_] rfl (QX J (QX J QZ)) (by rw [hv0,he0];rfl) J
    have key:v*1073741824+(limbs n).getD i 0≤4611686018427387904:=by omega
    clear h2;refine QW (Qz (Qx fun K hK=> ?_));refine Qq J J J (Qk (ishl30 (by omega) (by omega)) J J J J ?_);refine Qq J J J (Qq J J J (Xx J J J sNat (by omega) (Xs (by omega) (by omega)) J ?_))
    refine X1 J J J lInt J ?_
    rw [e2]
    refine Qk (ior30 (by omega) (by omega) (by omega) (by omega)) J J J J ?_
    refine Qv J J J (Qj (hK _ _ (Qz ?_)));clear hK K;refine Qx (fun K hK=> ?_);refine Qq J J J (Qk (isub (by omega) (by omega)) J J J J ?_);refine Qv J J J (Qj (hK _ _ (Q6 ?_)));clear hK K;refine Q9 (i,v*1073741824+(limbs n).getD i 0) (by dsimp only;omega) ⟨by dsimp only;omega,by dsimp only;omega,by dsimp only;omega,?_⟩ (by exact Qu J ⟨rfl,rfl,rfl,trivial⟩);dsimp only;rw [←hvq];simp only [BB];grind
  · have hq0:q=0:=by omega
    subst hq0
    have e:v=n:=by rw [Zg] at hvq;simpa using hvq
    exact absurd hvm (by omega)
set_option maxHeartbeats 2000000 in
theorem round_any(f:Fr)(up:Bool)(h1:(limbs f.num).length≤100)(h2:0<f.den)(h3:(limbs f.den).length≤100):Ok Tryz.prog 212 [fracC f,boolC up] (.fr (tupT [natC (rnd f.num f.den up),intC 0])):=by
  have hl:(limbs (f.num/f.den)).length≤100:=Nat.le_trans (Xr (Nat.div_le_self ..)) h1
  refine Ok.enter Tryz.func212 J _ Tryz.ntmps212 J ?_
  intro S w;refine Qy (Qx fun K hK=> ?_);refine Xu 0 J J J J J J J (Qv J J J (Qv J J J (Qj (hK _ _ (Qz (Qy ?_))))));clear hK K;refine Qx (fun K hK=> ?_);refine QJ J J J fF1 J (QQ J J J J J lNat J (QJ J J J fF2 J (QQ J J J J J lNat J (QV goDivMod (DivMod_ok f.num f.den h2 (by omega) (by omega)) J J J J ?_))));refine Qq J J J (QK J J J J (QK J J J J (QK J J J J (Qv J J J (Qv J J J (Qv J J J (Qj (hK _ _ (Qz (Qy (Qy ?_)))))))))));clear hK K;refine Qx (fun K hK=> ?_);refine Qq J J J (Qk ieql J J J J (Qq J J J (Qq J J J (Q5 J J J J (Qq J J J (Xd 23 J (fun hu=> ?_) (fun hu=> ?_)))))))
  · refine Qq J J J (Qh J J sNat.und (List.length_map ..) J (Qk igtr J J J J (Q5 J J J J (Qj (hK _ _ (Qz ?_))))));clear hK K;refine Q2 J (fun h=> ?_) (fun h=> ?_)
    · have hr:f.num%f.den≠0:=limbs_len_pos.mp (by omega);refine Qx (fun K hK=> ?_);refine Qq J J J (Xh J J sNat J J J (QV goAdd (Add_list (limbs (f.num/f.den)) [1] (by omega) (by simp) (X2 _) (OKL.cons (by decide) OKL.nil)) J J J J ?_));rw [Xt,show val [1]=1 by decide,show (((f.num/f.den:Nat):Int)+1).toNat=f.num/f.den+1 by generalize f.num/f.den=z;omega];refine Qq J J J (QK J J J J (QK J J J J (Qv J J J (Qv J J J (Qj (hK _ _ (Qz (Qy ?_))))))));clear hK K;refine Qx (fun K hK=> ?_);refine Qq J J J (Qq J J J (Qv J J J (Qv J J J (Qj (hK _ _ (Qz (Q4 ?_)))))));clear hK K;refine Q1 [_,_] rfl (QX J (QX J QZ)) (by unfold rnd;rw [if_pos ⟨hu,hr⟩];rfl) J
    · have hr:¬(f.num%f.den≠0):=fun h' =>h (by have:=limbs_len_pos.mpr h';omega)
      refine QW (Qz (Qy (Qx fun K hK=> ?_)));refine Qq J J J (Qq J J J (Qv J J J (Qv J J J (Qj (hK _ _ (Qz (Q4 ?_)))))));clear hK K;refine Q1 [_,_] rfl (QX J (QX J QZ)) (by unfold rnd;rw [if_neg (fun h' =>hr h'.2)];rfl) J
  · refine Qw J J J (Qw J J J (Qw J J J (Q7 J J J J (Qj (hK _ _ (Qz (Xy J (QW (Qz (Qy ?_))))))))));clear hK K;refine Qx (fun K hK=> ?_);refine Qq J J J (Qq J J J (Qv J J J (Qv J J J (Qj (hK _ _ (Qz (Q4 ?_)))))));clear hK K;refine Q1 [_,_] rfl (QX J (QX J QZ)) (by unfold rnd;rw [if_neg (fun h' =>by rw [hu] at h';cases h'.1)];rfl) J
theorem rnd_len{f:Fr}(up:Bool)(h1:(limbs f.num).length≤100):(limbs (rnd f.num f.den up)).length≤101:=by
  have hl:rnd f.num f.den up≤f.num+1:=by
    have:=Nat.div_le_self f.num f.den
    unfold rnd;split <;>omega
  have h2:f.num<1073741824 ^ 100:=Xl h1
  have h3:1073741824 ^ 100+1≤1073741824 ^ 101:=by decide
  exact Xn (by omega)
def flV (f : Fr) : Int := if rnd f.num f.den f.neg ≤ 4611686018427387904 then sg f.neg (rnd f.num f.den f.neg) else 0
def flE (f : Fr) : Int := intE (rnd f.num f.den f.neg)
set_option maxHeartbeats 2000000 in
theorem FFloor_any(f:Fr)(h1:(limbs f.num).length≤100)(h2:0<f.den)(h3:(limbs f.den).length≤100):Ok Tryz.prog 82 [fracC f] (.fr (tupT [intC (flV f),intC (flE f)])):=by
  have hI:=Int_any (rnd f.num f.den f.neg) (by have:=rnd_len (f:=f) f.neg h1;omega);have hR:=round_any f f.neg h1 h2 h3
  have hv:flV f=if rnd f.num f.den f.neg≤4611686018427387904 then sg f.neg (rnd f.num f.den f.neg) else 0:=rfl
  have he:flE f=intE (rnd f.num f.den f.neg):=rfl
  have hW:Ok Tryz.prog 145 [fracC f,boolC false] (.fr (tupT [intC (flV f),intC (flE f)])):=by
    generalize rnd f.num f.den f.neg=r at*;unfold intV intE at hI
    refine Ok.enter Tryz.func145 J _ Tryz.ntmps145 J ?_
    intro S w;refine Qy (Qx fun K hK=> ?_);refine Xu 0 J J J J J J J (Qv J J J (Qv J J J (Qj (hK _ _ (Qz (Qy ?_))))));clear hK K;refine Qx (fun K hK=> ?_);refine Qc (n:=3) J J J J J lFrac J (Qq J J J (QJ J J J fF0 J (QQ J J J J J lBool J (Ops.bne J J J uBool J ?_))));rw [dne,Bool.false_bne];skip;refine QV goround hR J J J J (Qq J J J (QK J J J J (QK J J J J (Qv J J J (Qv J J J (Qj (hK _ _ (Qz (Qy (Qy ?_))))))))));clear hK K;refine Qx (fun K hK=> ?_);refine Qq J J J (Qk ineq J J J J (Qj (hK _ _ (Qz (Xy J (QW (Qz (Qy ?_))))))));clear hK K;refine Qx (fun K hK=> ?_)
    refine Qq J J J ?_
    by_cases hr:r≤4611686018427387904
    · rw [if_pos hr,if_pos hr] at hI;rw [if_pos hr] at hv;refine QV goInt hI J J J J (Qq J J J (QK J J J J (QK J J J J (Qv J J J (Qv J J J (Qj (hK _ _ (Qz (Qy (Qy ?_))))))))));clear hK K;refine Qx (fun K hK=> ?_);refine Qq J J J (Qk ineq J J J J (Qj (hK _ _ (Qz (Xy J (QW (Qz (Qy (Qy ?_)))))))));clear hK K;refine Qx (fun K hK=> ?_);refine QJ J J J fF0 J (QQ J J J J J lBool J (Qj (hK _ _ (Qz ?_))));clear hK K;refine X6 J (fun hn=> ?_) (fun hn=> ?_)
      · refine Qx (fun K hK=> ?_);refine Qq J J J (Ops.ineg J J (by omega) (by omega) J ?_);refine Qv J J J (Qj (hK _ _ (Qz (Qy ?_))));clear hK K;refine Qx (fun K hK=> ?_);refine Qq J J J (Qv J J J (Qv J J J (Qj (hK _ _ (Qz (Q4 ?_))))));clear hK K;refine Q1 [_,_] rfl (QX J (QX J QZ)) (by rw [hv,he];unfold intE sg;rw [hn,if_pos hr];rfl) J
      · refine QW (Qz (Qy (Qx fun K hK=> ?_)));refine Qq J J J (Qv J J J (Qv J J J (Qj (hK _ _ (Qz (Q4 ?_))))));clear hK K;refine Q1 [_,_] rfl (QX J (QX J QZ)) (by rw [hv,he];unfold intE sg;rw [hn,if_pos hr];rfl) J
    · rw [if_neg hr,if_neg hr] at hI;rw [if_neg hr] at hv;refine QV goInt hI J J J J (Qq J J J (QK J J J J (QK J J J J (Qv J J J (Qv J J J (Qj (hK _ _ (Qz (Qy (Qy ?_))))))))));clear hK K;refine Qx (fun K hK=> ?_);refine Qq J J J (Qk ineq J J J J (Qj (hK _ _ (Qz (XZ J (Qy ?_))))));clear hK K;refine Qx (fun K hK=> ?_);refine Qv J J J (Qv J J J (Qj (hK _ _ (Qz (Q4 (QY ?_))))));clear hK K;refine Q1 [_,_] rfl (QX J (QX J QZ)) (by rw [hv,he];unfold intE;rw [if_neg hr];rfl) J
  refine Ok.enter Tryz.func82 J _ Tryz.ntmps82 J ?_
  intro S w;refine Qy (Qx fun K hK=> ?_);refine Xu 0 J J J J J J J (Qv J J J (Qv J J J (Qj (hK _ _ (Qz (Qy ?_))))));clear hK K;refine Qx (fun K hK=> ?_);refine Qc (n:=3) J J J J J lFrac J (QV goFwhole hW J J J J (QK J J J J (QK J J J J (Qv J J J (Qv J J J (Qj (hK _ _ (Qz (Q4 ?_)))))))));clear hK K;refine Q1 [_,_] rfl (QX J (QX J QZ)) J J
end Go.Proofs.YtojkdfilabmafaaGreat
namespace Go.Proofs.YtojkdfilabmafaaGreat
open Go.Own Go.Limbs
theorem w_nat0:∀S w v,(CT.ex (.slice none 0 0)).p S w v→(natC 0).p S w v:=by rw [natC_zero];exact YQ
attribute [local irreducible] Go.Own.Fin Ok Ops St
def badR (n : Int) (r : Rw) : Bool := !okCoeffs n r.cs || decide (r.b < -4503599627370496) || decide (4503599627370496 < r.b)
set_option maxHeartbeats 2000000 in
theorem LValid1_ok(n:Int)(r:Rw)(hl:r.cs.length<4611686018427387904):Ok Tryz.prog 194 ([rowC r]++ [.fr (ptrT [intC n])]) (boolC (badR n r)):=by
  refine Ok.enter Tryz.func194 J _ Tryz.ntmps194 J ?_
  intro S w;refine Qy (Qx fun K hK=> ?_);refine Xu 0 J J J J J J J (Qv J J J (Qj (hK _ _ (Qz (Qy ?_)))));clear hK K;refine Qx (fun K hK=> ?_);refine X1 J J J lInt J (QJ J J J fR0 J (QQ J J J J J lInts J (QV govalidCoeffs (validCoeffs_ok n r.cs hl) J J J J (Xz J J J (Qq J J J (Xd 9 J (fun h=> ?_) (fun h=> ?_)))))))
  · refine Qw J J J (Qw J J J (Qw J J J (Q5 J J J J (Qq J J J (Qw J J J (Qw J J J (Qw J J J (Q5 J J J J (Qv J J J (Qj (hK _ _ (Qz (Q4 ?_)))))))))))));clear hK K;refine Q1 [_] rfl (QX J QZ) (by unfold badR;rw [h];rfl) J
  · refine QJ J J J fR1 J (QQ J J J J J lInt J (Qk ilss J J J J (Q7 J J J J (Qq J J J (Qi 14 J (fun h2=> ?_) (fun h2=> ?_))))))
    · refine Qw J J J (Qw J J J (Qw J J J (Q5 J J J J (Qv J J J (Qj (hK _ _ (Qz (Q4 ?_))))))));clear hK K;refine Q1 [_] rfl (QX J QZ) (by unfold badR;rw [h,decide_eq_true h2];rfl) J
    · refine QJ J J J fR1 J (QQ J J J J J lInt J (Qk igtr J J J J (Q7 J J J J (Qv J J J (Qj (hK _ _ (Qz (Q4 ?_))))))));clear hK K;refine Q1 [_] rfl (QX J QZ) (by unfold badR;rw [h,decide_eq_false h2];rfl) J
theorem goLValid1:InGo Tryz.prog 194:=InGo.of Tryz.func194 (by kernel_rfl) (by kernel_rfl)
def validR (n : Int) (rs : List Rw) : Bool := decide (0 ≤ n) && decide (n ≤ 16) && decide (rs.length ≤ 64) && !rs.any (badR n)
set_option maxHeartbeats 2000000 in
theorem LValid_ok(n:Int)(rs:List Rw)(hl:rs.length<4611686018427387904)(hr:∀r∈rs,r.cs.length<4611686018427387904):Ok Tryz.prog 136 [intC n,rowsC rs] (boolC (validR n rs)):=by
  refine Ok.enter Tryz.func136 J _ Tryz.ntmps136 J ?_
  intro S w;refine Qy (Qx fun K hK=> ?_);refine Ops.box1 0 J J J J J J J (Qv J J J (Qj (hK _ _ (Qz (Qy (Qy ?_))))));clear hK K;refine Qx (fun K hK=> ?_);refine Zk J J J J J lInt J (Qk ilss J J J J (Qq J J J (Qi 7 J (fun h=> ?_) (fun h=> ?_))))
  · refine Qw J J J (Qw J J J (Q5 J J J J (Qq J J J (Qw J J J (Qw J J J (Qw J J J (Q5 J J J J (Qj (hK _ _ (Qz (XZ J (Qy ?_))))))))))));clear hK K;refine Qx (fun K hK=> ?_);refine Qv J J J (Qj (hK _ _ (Qz (Q4 (QY ?_)))));clear hK K;refine Q1 [_] rfl (QX J QZ) (by unfold validR;rw [decide_eq_false (show ¬0≤n by omega)];rfl) J
  · refine Zk J J J J J lInt J (Qk igtr J J J J (Q7 J J J J (Qq J J J (Qi 11 J (fun h2=> ?_) (fun h2=> ?_)))))
    · refine Qw J J J (Qw J J J (Qw J J J (Q5 J J J J (Qj (hK _ _ (Qz (XZ J (Qy ?_))))))));clear hK K;refine Qx (fun K hK=> ?_);refine Qv J J J (Qj (hK _ _ (Qz (Q4 (QY ?_)))));clear hK K;refine Q1 [_] rfl (QX J QZ) (by unfold validR;rw [decide_eq_false (show ¬n≤16 by omega),Bool.and_false];rfl) J
    · refine Qq J J J (Qh J J sRows.und (List.length_map ..) J (Qk igtr J J J J (Q7 J J J J (Qj (hK _ _ (Qz ?_))))));clear hK K;refine Q2 J (fun h3=> ?_) (fun h3=> ?_)
      · refine Qy (Qx fun K hK=> ?_);refine Qv J J J (Qj (hK _ _ (Qz (Q4 (QY ?_)))));clear hK K;refine Q1 [_] rfl (QX J QZ) (by unfold validR;rw [decide_eq_false (show ¬rs.length≤64 by omega),Bool.and_false];rfl) J
      · refine Y8 0 _ J J noBor_sub (QW (Qz (Qy (Qx fun K hK=> ?_))));refine Qq J J J (Ops.makeFunc J J J (QV goContainsFunc_rows (ContainsFunc_rows rs _ _ (badR n) goLValid1 (fun r hr' =>LValid1_ok n r (hr r hr')) hl) J J J J ?_));refine Xz J J J (Qv J J J (Qj (hK _ _ (Qz (Q4 ?_)))));clear hK K;refine Q1 [_] rfl (QX J QZ) (by unfold validR;rw [decide_eq_true (show 0≤n by omega),decide_eq_true (show n≤16 by omega),decide_eq_true (show rs.length≤64 by omega)];rfl) J
theorem goLValid:InGo Tryz.prog 136:=InGo.of Tryz.func136 (by kernel_rfl) (by kernel_rfl)
def dotN (c x : List Int) : Nat → Int
  | 0 => 0
  | k + 1 => dotN c x k + c.getD k 0 * x.getD k 0
def dot (c x : List Int) : Int := dotN c x (min c.length x.length)
theorem validR_spec{n:Int}{rs:List Rw}(h:validR n rs=true):0≤n∧n≤16∧rs.length≤64∧∀r∈rs,(r.cs.length:Int)≤n∧(∀y∈r.cs,y.natAbs≤1048576)∧r.b.natAbs≤4503599627370496:=by
  unfold validR at h;simp only [Bool.and_eq_true,decide_eq_true_eq,Bool.not_eq_true'] at h;obtain ⟨⟨⟨h1,h2⟩,h3⟩,h4⟩:=h;refine ⟨h1,h2,h3,fun r hr=> ?_⟩;rw [List.any_eq_false] at h4
  have h5:badR n r=false:=by simpa using h4 r hr
  unfold badR okCoeffs at h5;simp only [Bool.or_eq_false_iff,Bool.not_eq_false',Bool.and_eq_true,decide_eq_true_eq,decide_eq_false_iff_not,Bool.not_eq_true',List.any_eq_false] at h5;obtain ⟨⟨⟨h6,h7⟩,h8⟩,h9⟩:=h5;refine ⟨h6,fun y hy=> ?_,by omega⟩
  have h10:badC y=false:=by simpa using h7 y hy
  unfold badC at h10;simp only [Bool.or_eq_false_iff,decide_eq_false_iff_not] at h10;omega
end Go.Proofs.YtojkdfilabmafaaGreat
namespace Go.Proofs.YtojkdfilabmafaaGreat
open Go.Own Go.Limbs Go.Det
attribute [local irreducible] St Ops Go.Own.Fin Ok OkM
theorem zvOut:(Tryz.prog.info? 100).map (·.zero)=some (some (.agg #[.int .i64 0, .bool false, .slice none 0 0, .slice none 0 0, .slice none 0 0, .slice none 0 0, .slice none 0 0])):=by kernel_rfl
theorem lOut:LdN Tryz.prog 100 7:=LdN.of _ Tryz.underlying100 rfl (by kernel_rfl)
theorem szOut:(Tryz.prog.info? 100).map (·.size)=some 7:=by kernel_rfl
theorem bOut:bInfo Tryz.prog 100=some (.agg #[.int .i64 0, .bool false, .slice none 0 0, .slice none 0 0, .slice none 0 0, .slice none 0 0, .slice none 0 0],[(0,some 1),(1,some 3),(4,some 1),(5,some 1),(6,some 1)]):=by kernel_rfl
abbrev ocCs (O : Oc) : List CT := [intC O.kind, boolC O.value.neg, natC O.value.num, natC O.value.den, fracsC O.point, fracsC O.ray, fracsC O.dual]
abbrev ocC (O : Oc) : CT := .fr (aggT (ocCs O))
def oc0 : Oc := ⟨0, frz0, [], [], []⟩
theorem goSolve:InGo Tryz.prog 81:=InGo.of Tryz.func81 (by kernel_rfl) (by kernel_rfl)
theorem stOut_none{T E:Tv}{art:Int}(h:stRes T E=false):stOut T E art=E:=by
  unfold stRes at h;rw [Bool.or_eq_false_iff] at h;have h1:=of_decide_eq_false h.1
  have h2:E.at (T.bas.length+1) (T.col.length+1)<0:=by
    have:=h.2
    simpa using this
  unfold stOut;rw [if_neg h1,if_pos h2]
theorem lp_rw{n:Nat}{rs:List Rw}{c:List Int}(h:LpOk n rs c):(∀r∈rs,OkRw n r)∧Okc c:=by
  have big:∀z:Int,z.natAbs≤4503599627370496→-1152921504606846976≤z∧z≤1152921504606846976:=fun z hz=>by omega
  have ok:∀xs:List Int,(∀i,(xs.getD i 0).natAbs≤1048576)→Okc xs:=fun xs hx x hm=>by
    obtain ⟨i,hi,rfl⟩:=List.getElem_of_mem hm;have:=hx i;rw [List.getD_eq_getElem?_getD,List.getElem?_eq_getElem hi] at this;exact big _ (Nat.le_trans this (by decide))
  exact ⟨fun r hr=>⟨h.rl r hr,ok _ (h.rb r hr),(big _ (h.bb r hr)).1,(big _ (h.bb r hr)).2⟩,ok _ h.cb⟩
theorem wh_of{T T0:Tv}(h1:T.rows=T0.rows)(h2:T.bas=T0.bas)(h3:T.col=T0.col)(h4:T.den=T0.den):T=T0.wh T:=by
  cases T;cases T0;simp only at h1 h2 h3 h4;subst h1;subst h2;subst h3;subst h4;rfl
def kpB (j : Nat) : Bool := Nat.ble 4 j && Nat.blt j 10
set_option maxHeartbeats 32000000 in
theorem Solve_ok(n:Nat)(rs:List Rw)(c:List Int)(hL:LpOk n rs c)(hv:validR n rs=true)(hc:okCoeffs n c=true){T0 E F:Tv}{s:Int}(R:SolRun n rs c T0 E F s):Ok Tryz.prog 81 [intC n,rowsC rs,intsC c] (.fr (tupT [ocC (ocOf n rs.length T0 E F s),intC 0])):=by
  have hn:=hL.nn;have hm:=hL.mm;have hV:=LValid_ok n rs (by omega) (fun r hr=>by have:=hL.rl r hr;omega);have hC:=validCoeffs_ok n c (by have:=hL.cl;omega);rw [hv] at hV;rw [hc] at hC;have hB:=begin_ok n rs c (by omega) (by omega) (lp_rw hL).1 (lp_rw hL).2 hL.cl;have hGd:=R.beg.view.gd (lp_sys hL) R.beg.hl (by rw [R.beg.len];omega) (by rw [R.beg.col,X0];omega);have hT0l:=R.beg.len
  have hT0c:T0.col.length=n:=by rw [R.beg.col,X0]
  have hT0b:T0.bas.length=rs.length:=by rw [R.beg.bas,X0]
  refine Ok.enter Tryz.func81 J _ Tryz.ntmps81 J ?_
  intro S w;refine Qy (Qx fun K hK=> ?_);refine Qf 4 J J zvOut J J J (Qv J J J (Qj (hK _ _ (Qz (Qy (Qy ?_))))));clear hK K;refine Qx (fun K hK=> ?_);refine Qq J J J (Qq J J J (QV goLValid hV J J J J (Xz J J J (Qq J J J (Qq J J J (Qq J J J (QV govalidCoeffs hC J J J J (Xz J J J (Q7 J J J J (Qj (hK _ _ (Qz (Xy J (QW (Qz (Qy ?_))))))))))))))));clear hK K;refine Qx (fun K hK=> ?_);refine Qq J J J (Qh J J sRows.und (List.length_map ..) J (Qv J J J (Qj (hK _ _ (Qz (Qy ?_))))));clear hK K;refine Qx (fun K hK=> ?_);refine Qq J J J (Qq J J J (Qq J J J (Ops.callM [(4,_)] kpB gobegin hB J J J (fun gb hg=>hg.elim) (fun _=>rfl) (fun j hj=> ?_) (fun j hj=> ?_) (fun p hp=>absurd hp (by simp)) (fun q j hq=> ?_) (fun T hT=> ?_))))
  · have hj4:j=4:=by
      by_cases h4:4=j
      · exact h4.symm
      · rw [QU _ _ h4] at hj;cases hj
    subst hj4;exact ⟨rfl,fun q=>tab_none (by decide) (by decide)⟩
  · unfold kpB at hj;rw [Bool.and_eq_true] at hj
    exact .inr fun q=>tab_none (Nat.le_of_ble_eq_true hj.1) (Nat.le_of_ble_eq_true hj.2)
  · rcases hq with hq|⟨o,hq⟩ <;>cases hq;rfl
  obtain ⟨H,rfl⟩:∃H:Tv,T=T0.wh H:=⟨T,wh_of (hT.rows.trans R.beg.rows.symm) (hT.bas.trans R.beg.bas.symm) (hT.col.trans R.beg.col.symm) (hT.den.trans R.beg.den.symm)⟩
  have hHl:H.hl.length=T0.rows.length:=by have:=hT.hl;rw [hT0l];exact this
  have hst:=start_ok (T0.wh H) (E.wh {H with hl:=H.hl++ [default]}) ((n+rs.length:Nat):Int) (by omega) (by omega) (hGd.fit.wh hHl) (by show T0.rows.length=T0.bas.length+1;omega) (hGd.wh hHl).short (fun h hh=>by
    obtain ⟨gb,hg⟩:=hT.lines h hh
    exact ⟨gb,by rw [hg];show Value.slice _ (n+1) (n+1)=kh gb 0 (T0.col.length+1) (T0.col.length+1);rw [hT0c]⟩) (fun hw=>by
      rw [show (T0.wh H).bas=T0.bas from rfl,wrS_wh,hT0b] at hw
      exact (R.start hw).wh H hHl) (by show T0.rows.length≤90;omega) (by show T0.col.length≤90;omega)
  rw [stRes_wh] at hst
  refine Ops.reB (B' :=[(4,_)]++tabB (T0.wh H)) (fun j=>tab_swap J _ j) ?_
  refine Qv J J J (Qj (hK _ _ (Qz (Qy (Qy ?_)))));clear hK K;refine Qx (fun K hK=> ?_);refine Qq J J J (Qq J J J (Qq J J J (Qk (iadd (by omega) (by omega)) J J J J ?_)));rw [show (n:Int)+(rs.length:Int)=((n+rs.length:Nat):Int) from (Int.natCast_add ..).symm];refine X3 [(4,_)] gostart hst J J J (fun gb hg=>hg.elim) J J (fun p hp=>absurd hp (by simp)) (fun H1 hH1=> ?_);rw [stOut_wh];rw [stOut_rows] at hH1;have hE:=R.eg;have hRu:=R.run;have hFr:=R.fr
  have hoc:ocOf n rs.length T0 E F s=if stRes T0 E=false then ⟨3,frz0,[],[],(duS E n rs.length (rs.length+1) E.col.length).map ofQ⟩ else if 0≤s then ⟨2,frz0,(ptS F n F.bas.length).map ofQ,(raS F n s.toNat F.bas.length).map ofQ,[]⟩ else ⟨1,ofQ (shq (F.at rs.length F.col.length) F.den),(ptS F n F.bas.length).map ofQ,[],(duS F n rs.length rs.length F.col.length).map ofQ⟩:=rfl
  generalize hP:stOut T0 E ((n+rs.length:Nat):Int)=P at*;clear hst hV hC hB hGd hT
  cases hres:stRes T0 E with
  |false=>
    rw [if_pos hres] at hoc;obtain ⟨hGE,hEr,hEc⟩:=hE hres;rw [stOut_none hres] at hP;subst hP;have hdu:=dual_ok (E.wh H1) (hGE.wh hH1) n rs.length (rs.length+1) (by omega) (by omega) (by show _<E.rows.length;omega) hEc;rw [duS_wh] at hdu;refine Xz J J J (Qj (hK _ _ (Qz (XZ J (Qy ?_)))));clear hK K;refine Qx (fun K hK=> ?_);refine Qq J J J (Qq J J J (Qq J J J (Qq J J J (Qk (iadd (by omega) (by omega)) J J J J ?_))));refine X3 [(4,_)] godual hdu J J J (fun gb hg=>hg.elim) J J (fun p hp=>absurd hp (by simp)) (fun _ _=> ?_);refine Qo J bOut J (.one J J J J (.one J J J J .nil)) J (Qa 7 J J J J J szOut J J (Qv J J J (Qj (hK _ _ (Qz (Q4 (QY ?_)))))));clear hK K
    have hw:argW [.ex (.int .i64 3), .ex (.bool false), .ex (.slice none 0 0), .ex (.slice none 0 0), .ex (.slice none 0 0), .ex (.slice none 0 0),fracsC ((duS E n rs.length (rs.length+1) E.col.length).map ofQ)] (ocCs (ocOf n rs.length T0 E F s)):=by
      rw [hoc];exact ⟨Yk,Yk,w_nat0,w_nat0,YQ,YQ,Yk,trivial⟩
    refine Q1 [_,_] rfl (X7 (w_agg hw) (Qg J J lOut J (QX J QZ))) J J
  |true=>
    rw [if_neg (by rw [hres];decide)] at hoc;obtain ⟨k,hk⟩:=hRu hres;obtain ⟨hF1,hF2,hF3,hF4,hF5⟩:=hFr hres;have hlen:=hk.lens;have hGF:=hk.last;have hG1:=hGF.wh (H:=H1) (by rw [hH1,hlen.1]);have hmx:=maximize_ok (P.wh H1) (F.wh H1) rs.length s k (hk.wh hH1) (by show _<P.rows.length;omega);refine Xz J J J (Qj (hK _ _ (Qz (Xy J (QW (Qz (Qy (Qy ?_))))))));clear hK K;refine Qx (fun K hK=> ?_);refine Qq J J J (Qq J J J (X3 [(4,_)] gomaximize hmx J J J (fun gb hg=>hg.elim) J J (fun p hp=>absurd hp (by simp)) (fun _ _=> ?_)));have hpt:=point_ok (F.wh H1) hG1 n (by omega) hF3;rw [ptS_wh] at hpt;refine Qv J J J (Qj (hK _ _ (Qz (Qy ?_))));clear hK K;refine Qx (fun K hK=> ?_);refine Qq J J J (Qk igeq J J J J (Qj (hK _ _ (Qz ?_))));clear hK K;refine Q2 J (fun h0=> ?_) (fun h0=> ?_)
    · rw [if_pos h0] at hoc;obtain ⟨e,rfl⟩:∃e:Nat,s=e:=⟨s.toNat,by omega⟩;rw [Int.toNat_natCast] at hoc;have hra:=ray_ok (F.wh H1) hG1 n e (by omega) (by show e<F.col.length;omega) hF3 hF2;rw [raS_wh] at hra;refine Qy (Qx fun K hK=> ?_);refine Qq J J J (Qq J J J (X3 [(4,_)] gopoint hpt J J J (fun gb hg=>hg.elim) J J (fun p hp=>absurd hp (by simp)) (fun _ _=> ?_)));refine Qq J J J (Qq J J J (Qq J J J (X3 [(4,_)] goray hra J J J (fun gb hg=>hg.elim) J J (fun p hp=>absurd hp (by simp)) (fun _ _=> ?_))));refine Qo J bOut J (.one J J J J (.one J J J J (.one J J J J .nil))) J (Qa 7 J J J J J szOut J J (Qv J J J (Qj (hK _ _ (Qz (Q4 (QY ?_)))))));clear hK K
      have hw:argW [.ex (.int .i64 2), .ex (.bool false), .ex (.slice none 0 0), .ex (.slice none 0 0),fracsC ((ptS F n F.bas.length).map ofQ),fracsC ((raS F n e F.bas.length).map ofQ), .ex (.slice none 0 0)] (ocCs (ocOf n rs.length T0 E F e)):=by
        rw [hoc];exact ⟨Yk,Yk,w_nat0,w_nat0,Yk,Yk,YQ,trivial⟩
      refine Q1 [_,_] rfl (X7 (w_agg hw) (Qg J J lOut J (QX J QZ))) J J
    · rw [if_neg h0] at hoc;have hdu:=dual_ok (F.wh H1) hG1 n rs.length rs.length (by omega) (by omega) (by show _<F.rows.length;omega) hF2;rw [duS_wh] at hdu;have ssh:=hGF.short rs.length F.col.length;have hsh:=share_ok (F.wh H1) (F.at rs.length F.col.length) (by omega) hG1.den (Nat.le_trans hG1.dens (by decide))
      have km:(rs.length:Int).toNat*1=rs.length:=by omega
      have kc:(F.col.length:Int).toNat*2=F.col.length*2:=by omega
      have hrow:=hGF.fit.row rs.length (by omega);have hthin:=hGF.fit.thin;refine QW (Qz (Qy ?_));refine St.drawL mixed [15,18,23,25] (.p 0 (.p 1 (.p 2 (.p 3 (.p 5 (.p 8 (.p 9 (.p 10 (.p 16 (.p 17 (.p 19 (.p 20 (.p 21 (.p 22 (.f 4 (.p 6 (.f 7 (.f 11 (.p 12 (.p 13 (.f 14 (.a 15 (.a 18 (.a 23 (.p 24 (.a 25 (.p 26 .done))))))))))))))))))))))))))) (by kernel_rfl) (fun K hK=> ?_);refine Qq J J J (Qq J J J (Q0 J J J J (QJ J J J fT0 J (Qq J J J (Qq J J J (Q0 J J J J (QJ J J J fT2 J (Qq J J J (Qq J J J (Qq J J J (Qq J J J (Qq J J J (Qq J J J (QQ J J J J J lMat J (Qp 1 (rs.length+1) J J J (by rw [List.length_map];show H1.hl.length=_;rw [hH1,←hlen.1];omega) J sMat (by omega) (by omega) J ?_)))))))))))))));rw [km]
      refine QQ J J J J (Ze (by show _<H1.hl.length;rw [hH1,←hlen.1];omega)) lWhs J ?_
      refine QQ J J J J J lInts J (ZK 3 F.col.length J J J (by decide) (by show (ints F.col).length=_;simp) sInts.und J ?_)
      refine Qp (rs.length+10) (F.col.length+1) J J (Xw (by show _<H1.hl.length;rw [hH1,←hlen.1];omega) (by show _<F.rows.length;omega)) (by rw [XV];show (F.rows.getD rs.length []).length*2=_;rw [hrow]) J sWhs (by omega) (by omega) J ?_
      rw [kc]
      refine ldWh J J J (Xw (by show _<H1.hl.length;rw [hH1,←hlen.1];omega) (by show _<F.rows.length;omega)) J (by show _<(F.rows.getD rs.length []).length;omega) lWh J ?_
      refine X3 [(4,_)] goshare hsh J J J (fun gb hg=>hg.elim) J J (fun p hp=>absurd hp (by simp)) (fun _ _=> ?_);refine X3 [(4,_)] gopoint hpt J J J (fun gb hg=>hg.elim) J J (fun p hp=>absurd hp (by simp)) (fun _ _=> ?_);refine X3 [(4,_)] godual hdu J J J (fun gb hg=>hg.elim) J J (fun p hp=>absurd hp (by simp)) (fun _ _=> ?_);refine Qo J bOut J (.one J J J J (.agg J J J J (.one J J J J (.one J J J J .nil)))) J (Qa 7 J J J J J szOut J J (Qv J J J (Qj (hK _ _ (Qz (Q4 ?_))))));clear hK K
      have hw:argW ([.ex (.int .i64 1)]++frCs (ofQ (shq (F.at rs.length F.col.length) F.den))++ [fracsC ((ptS F n F.bas.length).map ofQ), .ex (.slice none 0 0),fracsC ((duS F n rs.length rs.length F.col.length).map ofQ)]) (ocCs (ocOf n rs.length T0 E F s)):=by
        rw [hoc];exact ⟨Yk,Yk,Yk,Yk,Yk,YQ,Yk,trivial⟩
      refine Q1 [_,_] rfl (X7 (w_agg hw) (Qg J J lOut J (QX J QZ))) J J
end Go.Proofs.YtojkdfilabmafaaGreat
