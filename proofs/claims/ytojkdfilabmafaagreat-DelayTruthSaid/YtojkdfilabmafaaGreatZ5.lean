/- The proof that DelayTruth holds for every input, without conditions: part 5 of 6. -/
import Derived.Test.YtojkdfilabmafaaGreatZ4
namespace Go.Proofs.YtojkdfilabmafaaGreat
open Go.Own Go.Limbs Go.Det
attribute [local irreducible] St Ops Go.Own.Fin Ok OkM
theorem zvOut:(Tryz.prog.info? 100).map (·.zero)=some (some (.agg #[.int .i64 0, .bool false, .slice none 0 0, .slice none 0 0, .slice none 0 0, .slice none 0 0, .slice none 0 0])):=by kernel_rfl
theorem lOut:LdN Tryz.prog 100 7:=LdN.of _ Tryz.underlying100 rfl (by kernel_rfl)
theorem szOut:(Tryz.prog.info? 100).map (·.size)=some 7:=by kernel_rfl
theorem bOut:bInfo Tryz.prog 100=some (.agg #[.int .i64 0, .bool false, .slice none 0 0, .slice none 0 0, .slice none 0 0, .slice none 0 0, .slice none 0 0],[(0,some 1),(1,some 3),(4,some 1),(5,some 1),(6,some 1)]):=by kernel_rfl
abbrev ocCs (O : Oc) : List CT := [intC O.kind, boolC O.value.neg, natC O.value.num, natC O.value.den, fracsC O.point, fracsC O.ray, fracsC O.dual]
abbrev ocC (O : Oc) : CT := .fr (aggT (ocCs O))
def oc0 : Oc := ⟨0, frz0, [], [], []⟩
theorem goSolve:InGo Tryz.prog 81:=InGo.of Tryz.func81 (by kernel_rfl) (by kernel_rfl)
theorem stOut_none{T E:Tv}{art:Int}(h:stRes T E=false):stOut T E art=E:=by
  unfold stRes at h;rw [Bool.or_eq_false_iff] at h;have h1:=of_decide_eq_false h.1
  have h2:E.at (T.bas.length+1) (T.col.length+1)<0:=by
    have:=h.2
    simpa using this
  unfold stOut;rw [if_neg h1,if_pos h2]
theorem lp_rw{n:Nat}{rs:List Rw}{c:List Int}(h:LpOk n rs c):(∀r∈rs,OkRw n r)∧Okc c:=by
  have big:∀z:Int,z.natAbs≤4503599627370496→-1152921504606846976≤z∧z≤1152921504606846976:=fun z hz=>by omega
  have ok:∀xs:List Int,(∀i,(xs.getD i 0).natAbs≤1048576)→Okc xs:=fun xs hx x hm=>by
    obtain ⟨i,hi,rfl⟩:=List.getElem_of_mem hm;have:=hx i;rw [List.getD_eq_getElem?_getD,List.getElem?_eq_getElem hi] at this;exact big _ (Nat.le_trans this (by decide))
  exact ⟨fun r hr=>⟨h.rl r hr,ok _ (h.rb r hr),(big _ (h.bb r hr)).1,(big _ (h.bb r hr)).2⟩,ok _ h.cb⟩
theorem wh_of{T T0:Tv}(h1:T.rows=T0.rows)(h2:T.bas=T0.bas)(h3:T.col=T0.col)(h4:T.den=T0.den):T=T0.wh T:=by
  cases T;cases T0;simp only at h1 h2 h3 h4;subst h1;subst h2;subst h3;subst h4;rfl
def kpB (j : Nat) : Bool := Nat.ble 4 j && Nat.blt j 10
set_option maxHeartbeats 32000000 in
theorem Solve_ok(n:Nat)(rs:List Rw)(c:List Int)(hL:LpOk n rs c)(hv:validR n rs=true)(hc:okCoeffs n c=true){T0 E F:Tv}{s:Int}(R:SolRun n rs c T0 E F s):Ok Tryz.prog 81 [intC n,rowsC rs,intsC c] (.fr (tupT [ocC (ocOf n rs.length T0 E F s),intC 0])):=by
  have hn:=hL.nn;have hm:=hL.mm;have hV:=LValid_ok n rs (by omega) (fun r hr=>by have:=hL.rl r hr;omega);have hC:=validCoeffs_ok n c (by have:=hL.cl;omega);rw [hv] at hV;rw [hc] at hC;have hB:=begin_ok n rs c (by omega) (by omega) (lp_rw hL).1 (lp_rw hL).2 hL.cl;have hGd:=R.beg.view.gd (lp_sys hL) R.beg.hl (by rw [R.beg.len];omega) (by rw [R.beg.col,X1];omega);have hT0l:=R.beg.len
  have hT0c:T0.col.length=n:=by rw [R.beg.col,X1]
  have hT0b:T0.bas.length=rs.length:=by rw [R.beg.bas,X1]
  refine Ok.enter Tryz.func81 J _ Tryz.ntmps81 J ?_
  intro S w;refine Qy (Qx fun K hK=> ?_);refine Qg 4 J J zvOut J J J (Qv J J J (Qj (hK _ _ (Qz (Qy (Qy ?_))))));clear hK K;refine Qx (fun K hK=> ?_);refine Qq J J J (Qq J J J (QV goLValid hV J J J J (Xx J J J (Qq J J J (Qq J J J (Qq J J J (QV govalidCoeffs hC J J J J (Xx J J J (Q8 J J J J (Qj (hK _ _ (Qz (Xw J (QK (Qz (Qy ?_))))))))))))))));clear hK K;refine Qx (fun K hK=> ?_);refine Qq J J J (Qf J J sRows.und (List.length_map ..) J (Qv J J J (Qj (hK _ _ (Qz (Qy ?_))))));clear hK K;refine Qx (fun K hK=> ?_);refine Qq J J J (Qq J J J (Qq J J J (Ops.callM [(4,_)] kpB gobegin hB J J J (fun gb hg=>hg.elim) (fun _=>rfl) (fun j hj=> ?_) (fun j hj=> ?_) (fun p hp=>absurd hp (by simp)) (fun q j hq=> ?_) (fun T hT=> ?_))))
  · have hj4:j=4:=by
      by_cases h4:4=j
      · exact h4.symm
      · rw [QW _ _ h4] at hj;cases hj
    subst hj4;exact ⟨rfl,fun q=>tab_none (by decide) (by decide)⟩
  · unfold kpB at hj;rw [Bool.and_eq_true] at hj
    exact .inr fun q=>tab_none (Nat.le_of_ble_eq_true hj.1) (Nat.le_of_ble_eq_true hj.2)
  · rcases hq with hq|⟨o,hq⟩ <;>cases hq;rfl
  obtain ⟨H,rfl⟩:∃H:Tv,T=T0.wh H:=⟨T,wh_of (hT.rows.trans R.beg.rows.symm) (hT.bas.trans R.beg.bas.symm) (hT.col.trans R.beg.col.symm) (hT.den.trans R.beg.den.symm)⟩
  have hHl:H.hl.length=T0.rows.length:=by have:=hT.hl;rw [hT0l];exact this
  have hst:=start_ok (T0.wh H) (E.wh {H with hl:=H.hl++ [default]}) ((n+rs.length:Nat):Int) (by omega) (by omega) (hGd.fit.wh hHl) (by show T0.rows.length=T0.bas.length+1;omega) (hGd.wh hHl).short (fun h hh=>by
    obtain ⟨gb,hg⟩:=hT.lines h hh
    exact ⟨gb,by rw [hg];show Value.slice _ (n+1) (n+1)=kh gb 0 (T0.col.length+1) (T0.col.length+1);rw [hT0c]⟩) (fun hw=>by
      rw [show (T0.wh H).bas=T0.bas from rfl,wrS_wh,hT0b] at hw
      exact (R.start hw).wh H hHl) (by show T0.rows.length≤90;omega) (by show T0.col.length≤90;omega)
  rw [stRes_wh] at hst
  refine Ops.reB (B' :=[(4,_)]++tabB (T0.wh H)) (fun j=>tab_swap J _ j) ?_
  refine Qv J J J (Qj (hK _ _ (Qz (Qy (Qy ?_)))));clear hK K;refine Qx (fun K hK=> ?_);refine Qq J J J (Qq J J J (Qq J J J (Qk (iadd (by omega) (by omega)) J J J J ?_)));rw [show (n:Int)+(rs.length:Int)=((n+rs.length:Nat):Int) from (Int.natCast_add ..).symm];refine X3 [(4,_)] gostart hst J J J (fun gb hg=>hg.elim) J J (fun p hp=>absurd hp (by simp)) (fun H1 hH1=> ?_);rw [stOut_wh];rw [stOut_rows] at hH1;have hE:=R.eg;have hRu:=R.run;have hFr:=R.fr
  have hoc:ocOf n rs.length T0 E F s=if stRes T0 E=false then ⟨3,frz0,[],[],(duS E n rs.length (rs.length+1) E.col.length).map ofQ⟩ else if 0≤s then ⟨2,frz0,(ptS F n F.bas.length).map ofQ,(raS F n s.toNat F.bas.length).map ofQ,[]⟩ else ⟨1,ofQ (shq (F.at rs.length F.col.length) F.den),(ptS F n F.bas.length).map ofQ,[],(duS F n rs.length rs.length F.col.length).map ofQ⟩:=rfl
  generalize hP:stOut T0 E ((n+rs.length:Nat):Int)=P at*;clear hst hV hC hB hGd hT
  cases hres:stRes T0 E with
  |false=>
    rw [if_pos hres] at hoc;obtain ⟨hGE,hEr,hEc⟩:=hE hres;rw [stOut_none hres] at hP;subst hP;have hdu:=dual_ok (E.wh H1) (hGE.wh hH1) n rs.length (rs.length+1) (by omega) (by omega) (by show _<E.rows.length;omega) hEc;rw [duS_wh] at hdu;refine Xx J J J (Qj (hK _ _ (Qz (XZ J (Qy ?_)))));clear hK K;refine Qx (fun K hK=> ?_);refine Qq J J J (Qq J J J (Qq J J J (Qq J J J (Qk (iadd (by omega) (by omega)) J J J J ?_))));refine X3 [(4,_)] godual hdu J J J (fun gb hg=>hg.elim) J J (fun p hp=>absurd hp (by simp)) (fun _ _=> ?_);refine Qo J bOut J (.one J J J J (.one J J J J .nil)) J (Qb 7 J J J J J szOut J J (Qv J J J (Qj (hK _ _ (Qz (Q4 (QY ?_)))))));clear hK K
    have hw:argW [.ex (.int .i64 3), .ex (.bool false), .ex (.slice none 0 0), .ex (.slice none 0 0), .ex (.slice none 0 0), .ex (.slice none 0 0),fracsC ((duS E n rs.length (rs.length+1) E.col.length).map ofQ)] (ocCs (ocOf n rs.length T0 E F s)):=by
      rw [hoc];exact ⟨Y9,Y9,w_nat0,w_nat0,Yc,Yc,Y9,trivial⟩
    refine Q3 [_,_] rfl (Xd (w_agg hw) (Qh J J lOut J (QQ J QZ))) J J
  |true=>
    rw [if_neg (by rw [hres];decide)] at hoc;obtain ⟨k,hk⟩:=hRu hres;obtain ⟨hF1,hF2,hF3,hF4,hF5⟩:=hFr hres;have hlen:=hk.lens;have hGF:=hk.last;have hG1:=hGF.wh (H:=H1) (by rw [hH1,hlen.1]);have hmx:=maximize_ok (P.wh H1) (F.wh H1) rs.length s k (hk.wh hH1) (by show _<P.rows.length;omega);refine Xx J J J (Qj (hK _ _ (Qz (Xw J (QK (Qz (Qy (Qy ?_))))))));clear hK K;refine Qx (fun K hK=> ?_);refine Qq J J J (Qq J J J (X3 [(4,_)] gomaximize hmx J J J (fun gb hg=>hg.elim) J J (fun p hp=>absurd hp (by simp)) (fun _ _=> ?_)));have hpt:=point_ok (F.wh H1) hG1 n (by omega) hF3;rw [ptS_wh] at hpt;refine Qv J J J (Qj (hK _ _ (Qz (Qy ?_))));clear hK K;refine Qx (fun K hK=> ?_);refine Qq J J J (Qk igeq J J J J (Qj (hK _ _ (Qz ?_))));clear hK K;refine Q2 J (fun h0=> ?_) (fun h0=> ?_)
    · rw [if_pos h0] at hoc;obtain ⟨e,rfl⟩:∃e:Nat,s=e:=⟨s.toNat,by omega⟩;rw [Int.toNat_natCast] at hoc;have hra:=ray_ok (F.wh H1) hG1 n e (by omega) (by show e<F.col.length;omega) hF3 hF2;rw [raS_wh] at hra;refine Qy (Qx fun K hK=> ?_);refine Qq J J J (Qq J J J (X3 [(4,_)] gopoint hpt J J J (fun gb hg=>hg.elim) J J (fun p hp=>absurd hp (by simp)) (fun _ _=> ?_)));refine Qq J J J (Qq J J J (Qq J J J (X3 [(4,_)] goray hra J J J (fun gb hg=>hg.elim) J J (fun p hp=>absurd hp (by simp)) (fun _ _=> ?_))));refine Qo J bOut J (.one J J J J (.one J J J J (.one J J J J .nil))) J (Qb 7 J J J J J szOut J J (Qv J J J (Qj (hK _ _ (Qz (Q4 (QY ?_)))))));clear hK K
      have hw:argW [.ex (.int .i64 2), .ex (.bool false), .ex (.slice none 0 0), .ex (.slice none 0 0),fracsC ((ptS F n F.bas.length).map ofQ),fracsC ((raS F n e F.bas.length).map ofQ), .ex (.slice none 0 0)] (ocCs (ocOf n rs.length T0 E F e)):=by
        rw [hoc];exact ⟨Y9,Y9,w_nat0,w_nat0,Y9,Y9,Yc,trivial⟩
      refine Q3 [_,_] rfl (Xd (w_agg hw) (Qh J J lOut J (QQ J QZ))) J J
    · rw [if_neg h0] at hoc;have hdu:=dual_ok (F.wh H1) hG1 n rs.length rs.length (by omega) (by omega) (by show _<F.rows.length;omega) hF2;rw [duS_wh] at hdu;have ssh:=hGF.short rs.length F.col.length;have hsh:=share_ok (F.wh H1) (F.at rs.length F.col.length) (by omega) hG1.den (Nat.le_trans hG1.dens (by decide))
      have km:(rs.length:Int).toNat*1=rs.length:=by omega
      have kc:(F.col.length:Int).toNat*2=F.col.length*2:=by omega
      have hrow:=hGF.fit.row rs.length (by omega);have hthin:=hGF.fit.thin;refine QK (Qz (Qy ?_));refine St.drawL mixed [15,18,23,25] (.p 0 (.p 1 (.p 2 (.p 3 (.p 5 (.p 8 (.p 9 (.p 10 (.p 16 (.p 17 (.p 19 (.p 20 (.p 21 (.p 22 (.f 4 (.p 6 (.f 7 (.f 11 (.p 12 (.p 13 (.f 14 (.a 15 (.a 18 (.a 23 (.p 24 (.a 25 (.p 26 .done))))))))))))))))))))))))))) (by kernel_rfl) (fun K hK=> ?_);refine Qq J J J (Qq J J J (QU J J J J (QJ J J J fT0 J (Qq J J J (Qq J J J (QU J J J J (QJ J J J fT2 J (Qq J J J (Qq J J J (Qq J J J (Qq J J J (Qq J J J (Qq J J J (QX J J J J J lMat J (Qp 1 (rs.length+1) J J J (by rw [List.length_map];show H1.hl.length=_;rw [hH1,←hlen.1];omega) J sMat (by omega) (by omega) J ?_)))))))))))))));rw [km]
      refine QX J J J J (Zf (by show _<H1.hl.length;rw [hH1,←hlen.1];omega)) lWhs J ?_
      refine QX J J J J J lInts J (ZK 3 F.col.length J J J (by decide) (by show (ints F.col).length=_;simp) sInts.und J ?_)
      refine Qp (rs.length+10) (F.col.length+1) J J (Xy (by show _<H1.hl.length;rw [hH1,←hlen.1];omega) (by show _<F.rows.length;omega)) (by rw [XV];show (F.rows.getD rs.length []).length*2=_;rw [hrow]) J sWhs (by omega) (by omega) J ?_
      rw [kc]
      refine ldWh J J J (Xy (by show _<H1.hl.length;rw [hH1,←hlen.1];omega) (by show _<F.rows.length;omega)) J (by show _<(F.rows.getD rs.length []).length;omega) lWh J ?_
      refine X3 [(4,_)] goshare hsh J J J (fun gb hg=>hg.elim) J J (fun p hp=>absurd hp (by simp)) (fun _ _=> ?_);refine X3 [(4,_)] gopoint hpt J J J (fun gb hg=>hg.elim) J J (fun p hp=>absurd hp (by simp)) (fun _ _=> ?_);refine X3 [(4,_)] godual hdu J J J (fun gb hg=>hg.elim) J J (fun p hp=>absurd hp (by simp)) (fun _ _=> ?_);refine Qo J bOut J (.one J J J J (.agg J J J J (.one J J J J (.one J J J J .nil)))) J (Qb 7 J J J J J szOut J J (Qv J J J (Qj (hK _ _ (Qz (Q4 ?_))))));clear hK K
      have hw:argW ([.ex (.int .i64 1)]++frCs (ofQ (shq (F.at rs.length F.col.length) F.den))++ [fracsC ((ptS F n F.bas.length).map ofQ), .ex (.slice none 0 0),fracsC ((duS F n rs.length rs.length F.col.length).map ofQ)]) (ocCs (ocOf n rs.length T0 E F s)):=by
        rw [hoc];exact ⟨Y9,Y9,Y9,Y9,Y9,Yc,Y9,trivial⟩
      refine Q3 [_,_] rfl (Xd (w_agg hw) (Qh J J lOut J (QQ J QZ))) J J
end Go.Proofs.YtojkdfilabmafaaGreat
namespace Go.Proofs.YtojkdfilabmafaaGreat
open Go.Own Go.Limbs Go.Det
section
variable {n : Nat} {rs : List Rw} {c : List Int}
def rsum (n : Nat) (cs : List Int) (X : Nat → Int) : Int := sm (fun j => cs.getD j 0 * X j) n
theorem rws_mem{i:Nat}(h:i<rs.length):rs.getD i rw0∈rs:=by
  rw [List.getD_eq_getElem?_getD,List.getElem?_eq_getElem h];exact List.getElem_mem h
theorem rws_at{r:Rw}(h:r∈rs):∃a,a<rs.length∧rs.getD a rw0=r:=by
  obtain ⟨a,ha,e⟩:=List.getElem_of_mem h
  exact ⟨a,ha,by rw [List.getD_eq_getElem?_getD,List.getElem?_eq_getElem ha];exact e⟩
theorem feas_of{X:Nat→Int}(h0:∀v,v<n→0≤X v)(h:∀r∈rs,rsum n r.cs X≤r.b):Feas n rs 1 X:=
  ⟨by decide,h0,fun i hi=>by rw [Int.one_mul];exact h _ (rws_mem hi)⟩
theorem sm_ind(f:Nat→Int){a m:Nat}(h:a<m):sm (fun i=>f i*(if i=a then 1 else 0)) m=f a:=by
  rw [Yy h (fun k _ hk=>by rw [if_neg hk,Int.mul_zero]),if_pos rfl,Int.mul_one]
theorem sm_ind2(f:Nat→Int){a b m:Nat}(h:a<m)(h2:b<m):sm (fun i=>f i*((if i=a then 1 else 0)+(if i=b then 1 else 0))) m=f a+f b:=by
  rw [Xb (g:=fun i=>f i*(if i=a then 1 else 0)+f i*(if i=b then 1 else 0)) (fun k _=>Int.mul_add ..),sm_add,sm_ind f h,sm_ind f h2]
theorem dual_two{r1 r2:Rw}(h1:r1∈rs)(h2:r2∈rs)(hc:∀j,j<n→c.getD j 0≤r1.cs.getD j 0+r2.cs.getD j 0):∃Y,Dual n rs c 1 Y∧sm (fun i=>cb rs i*Y i) rs.length=r1.b+r2.b:=by
  obtain ⟨a,ha,ea⟩:=rws_at h1
  obtain ⟨b,hb,eb⟩:=rws_at h2
  refine ⟨fun i=>(if i=a then 1 else 0)+(if i=b then 1 else 0),⟨by decide,fun i _=>by split <;>split <;>decide,fun j hj=> ?_⟩,?_⟩
  · rw [sm_ind2 (fun i=>ca rs i j) ha hb,Int.one_mul]
    show _≤(rs.getD a rw0).cs.getD j 0+(rs.getD b rw0).cs.getD j 0
    rw [ea,eb];exact hc j hj
  · rw [sm_ind2 (fun i=>cb rs i) ha hb]
    show (rs.getD a rw0).b+(rs.getD b rw0).b=_
    rw [ea,eb]
theorem dual_one{r1:Rw}(h1:r1∈rs)(hc:∀j,j<n→c.getD j 0≤r1.cs.getD j 0):∃Y,Dual n rs c 1 Y∧sm (fun i=>cb rs i*Y i) rs.length=r1.b:=by
  obtain ⟨a,ha,ea⟩:=rws_at h1
  refine ⟨fun i=>if i=a then 1 else 0,⟨by decide,fun i _=>by split <;>decide,fun j hj=> ?_⟩,?_⟩
  · rw [sm_ind (fun i=>ca rs i j) ha,Int.one_mul]
    show _≤(rs.getD a rw0).cs.getD j 0
    rw [ea];exact hc j hj
  · rw [sm_ind (fun i=>cb rs i) ha]
    show (rs.getD a rw0).b=_
    rw [ea]
theorem dual_zero(hc:∀j,j<n→c.getD j 0≤0):∃Y,Dual n rs c 1 Y∧sm (fun i=>cb rs i*Y i) rs.length=0:=
  ⟨fun _=>0,⟨by decide,fun _ _=>Int.le_refl _,fun j hj=>by rw [ZZ fun k _=>Int.mul_zero _,Int.one_mul];exact hc j hj⟩,ZZ fun k _=>Int.mul_zero _⟩
end
structure Btw (A B : Int) (f : Fr) : Prop where
  den : 0 < f.den
  lo : A * f.den ≤ sg f.neg f.num
  hi : sg f.neg f.num ≤ B * f.den
theorem mkRat_rel(val:Int){d:Nat}(hd:0<d):val*(mkRat val d).den=(mkRat val d).num*d:=
  (Rat.mkRat_eq_iff (n₁:=val) (d₁:=d) (n₂:=(mkRat val d).num) (d₂:=(mkRat val d).den) (by omega) (mkRat val d).den_nz).1 (Rat.mkRat_self _).symm
theorem btw_of{A B val D:Int}(hD:0<D)(h1:A*D≤val)(h2:val≤B*D):Btw A B (ofQ (shq val D)):=by
  obtain ⟨d,rfl⟩:∃d:Nat,D=d:=⟨D.toNat,by omega⟩
  have e:shq val (d:Int)=mkRat val d:=by unfold shq;rw [Int.natAbs_natCast]
  rw [e]
  have h:=mkRat_rel val (d:=d) (by omega)
  have hp:=(mkRat val d).den_pos
  have hs:=ofQ_sg (mkRat val d)
  have hd:(ofQ (mkRat val d)).den=(mkRat val d).den:=rfl
  refine ⟨hp,?_,?_⟩
  · rw [hs,hd]
    generalize (mkRat val d).den=q at*
    generalize (mkRat val d).num=p at*
    refine Int.le_of_mul_le_mul_right ?_ hD
    rw [←h]
    have:=Int.mul_le_mul_of_nonneg_right h1 (show 0≤(q:Int) by omega)
    rw [show A*(q:Int)*d=A*d*q by grind];exact this
  · rw [hs,hd]
    generalize (mkRat val d).den=q at*
    generalize (mkRat val d).num=p at*
    refine Int.le_of_mul_le_mul_right ?_ hD
    rw [←h]
    have:=Int.mul_le_mul_of_nonneg_right h2 (show 0≤(q:Int) by omega)
    rw [show B*(q:Int)*d=B*d*q by grind];exact this
theorem flV_btw{A B:Int}{f:Fr}(h:Btw A B f)(hA: -1152921504606846976≤A)(hB:B≤1152921504606846976):A≤flV f∧flV f≤B:=by
  have hz:=floor_sg f.neg f.num f.den h.den
  have h1:A≤sg f.neg f.num/(f.den:Int):=Int.le_ediv_of_mul_le (by have:=h.den;omega) h.lo
  have h2:sg f.neg f.num/(f.den:Int)≤B:=Int.ediv_le_of_le_mul (by have:=h.den;omega) h.hi
  rw [←hz] at h1 h2
  have h3:=natAbs_sg f.neg (rnd f.num f.den f.neg)
  unfold flV
  rw [if_pos (by omega)]
  exact ⟨h1,h2⟩
theorem Kt_mono{m:Nat}(h:m≤64):Kt m≤Kt 64:=by
  unfold Kt
  exact Nat.mul_le_mul (by omega) (Nat.mul_le_mul_left _ (Nat.mul_le_mul (fact_mono (by omega)) (Nat.pow_le_pow_right (by decide) (by omega))))
theorem Kt_len{m:Nat}(h:m≤64){x:Nat}(hx:x≤Kt m):(limbs x).length≤100:=Xn (Nat.lt_of_le_of_lt (Nat.le_trans hx (Kt_mono h)) (by decide+kernel))
theorem sol_btw{n:Nat}{rs:List Rw}{c:List Int}{O:Oc}(h:Sol n rs c O)(hm:rs.length≤64){X Y:Nat→Int}(hX:Feas n rs 1 X)(hY:Dual n rs c 1 Y):
    O.kind=1∧Btw (rsum n c X) (sm (fun i=>cb rs i*Y i) rs.length) O.value:=by
  cases h with
  |opt D X' Y' val hX' hv hY' hw b1 b2 b3 b4=>
    refine ⟨rfl,btw_of hX'.den ?_ ?_⟩
    · have:=weak hX hY'
      rw [hw,Int.one_mul] at this
      rw [Int.mul_comm];exact this
    · have:=weak hX' hY
      rw [hv,Int.one_mul] at this
      rw [Int.mul_comm];exact this
  |unb D X' Z hX' hZ=>exact (no_ray hZ hY).elim
  |emp D Y' hY' =>exact (no_refu hX hY').elim
theorem sol_len{n:Nat}{rs:List Rw}{c:List Int}{O:Oc}(h:Sol n rs c O)(hm:rs.length≤64):(limbs O.value.num).length≤100∧(limbs O.value.den).length≤100∧(O.kind=1→0<O.value.den):=by
  have h0:(limbs 0).length≤100:=by rw [limbs_zero];exact Nat.zero_le _
  cases h with
  |opt D X' Y' val hX' hv hY' hw b1 b2 b3 b4=>
    have hD:=hX'.den
    have hr:=redF_q (decide (val<0)) val.natAbs D.natAbs (by omega)
    rw [sg_natAbs] at hr
    have e:ofQ (shq val D)=redF (decide (val<0)) val.natAbs D.natAbs:=hr.symm
    refine ⟨?_,?_,fun _=>(shq val D).den_pos⟩
    · show (limbs (ofQ (shq val D)).num).length≤100
      rw [e];exact Nat.le_trans (Xs (Nat.div_le_self _ _)) (Kt_len hm b4)
    · show (limbs (ofQ (shq val D)).den).length≤100
      rw [e];exact Nat.le_trans (Xs (Nat.div_le_self _ _)) (Kt_len hm b1)
  |unb=>exact ⟨h0,h0,fun h=>by cases h⟩
  |emp=>exact ⟨h0,h0,fun h=>by cases h⟩
theorem lpOf{n:Int}{rs:List Rw}{c:List Int}(hv:validR n rs=true)(hc:okCoeffs n c=true):∃N:Nat,n=N∧LpOk N rs c:=by
  obtain ⟨v1,v2,v3,v4⟩:=validR_spec hv
  obtain ⟨N,rfl⟩:∃N:Nat,n=N:=⟨n.toNat,by omega⟩
  have bdd:∀xs:List Int,(∀y∈xs,y.natAbs≤1048576)→∀i,(xs.getD i 0).natAbs≤1048576:=fun xs hx i=>by
    rcases Nat.lt_or_ge i xs.length with h|h
    · exact hx _ (getD_mem h)
    · rw [getD_ge h];decide
  unfold okCoeffs at hc
  rw [Bool.and_eq_true] at hc
  have h1:=of_decide_eq_true hc.1
  have h2:∀y∈c,y.natAbs≤1048576:=fun y hy=>by
    have h3:c.any badC=false:=by simpa using hc.2
    have h4:=List.any_eq_false.1 h3 y hy
    unfold badC at h4
    simp only [Bool.or_eq_true,decide_eq_true_eq,not_or] at h4
    omega
  exact ⟨N,rfl,⟨by omega,v3,by omega,bdd c h2,fun r hr=>by have:=(v4 r hr).1;omega,fun r hr=>bdd _ (v4 r hr).2.1,fun r hr=>(v4 r hr).2.2⟩⟩
end Go.Proofs.YtojkdfilabmafaaGreat
namespace Go.Proofs.YtojkdfilabmafaaGreat
open Go.Own Go.Limbs
attribute [local irreducible] St Ops Go.Own.Fin Ok OkB OkN OkT OkL OkF
theorem goCompact_Wr:InGo Tryz.prog 62:=InGo.of Tryz.func62 (by kernel_rfl) (by kernel_rfl)
set_option maxHeartbeats 4000000 in
theorem Compact_Wr_ok(l:List Wr)(hl:l.length≤1000000000):OkT Tryz.prog 62 37 2 (wrs l) [] (wrs (dd l)):=by
  refine OkT.enter Tryz.func62 rfl _ Tryz.ntmps62 rfl ?_
  intro S w h0
  (refine Qy (Qx fun K hK=> ?_);refine Qv rfl rfl rfl ?_;refine Qj (hK _ _ (Qz (Qy (Qy ?_))));clear hK K;refine Qx (fun K hK=> ?_);refine Qq rfl rfl rfl ?_)
  refine YK l.length rfl rfl rfl (by decide) (YW l) (by with_reducible exact sWrs.und) rfl ?_
  (refine Qk ilss rfl rfl rfl rfl ?_;refine Qj (hK _ _ (Qz ?_));clear hK K)
  refine Q2 rfl (fun h=> ?_) (fun h=> ?_)
  · rw [dd_small (l:=l) (by omega)]
    (refine Qy (Qx fun K hK=> ?_);refine Qq rfl rfl rfl ?_;refine Qv rfl rfl rfl ?_;refine Qj (hK _ _ (Qz (Q4 (QY ?_))));clear hK K)
    refine Ye rfl rfl rfl
  (refine QK (Qz (Qy (Qy (Qx fun K hK=> ?_))));refine Qv rfl rfl rfl ?_;refine Qj (hK _ _ (Qz (Q1 ?_)));clear hK K)
  refine Qr (α:=Nat) (fun i=>i+1≤l.length∧dd (l.take (i+1))=l.take (i+1))
    (fun i=>[(0, .own 0),(3, .ct (intC (i+1)))]) (fun _=>[(0, .row 37 2 (wrs l))]) (fun i=>l.length - i) 0 ⟨by omega,dd_small (by rw [List.length_take];omega)⟩ (by exact Qu rfl ⟨rfl,rfl,trivial⟩) ?_
  rintro i ⟨hi,hd⟩
  try dsimp only at hi hd
  try dsimp only
  (refine Qy (Qy (Qx fun K hK=> ?_));refine Qq rfl rfl rfl ?_;refine Qq rfl rfl rfl ?_)
  refine YK l.length rfl rfl rfl (by decide) (YW l) (by with_reducible exact sWrs.und) rfl ?_
  (refine Qk ilss rfl rfl rfl rfl ?_;refine Qj (hK _ _ (Qz ?_));clear hK K)
  refine Q2 rfl (fun h=> ?_) (fun h=> ?_)
  rotate_left
  · have e:dd l=l:=by
      have:=hd
      rw [List.take_of_length_le (by omega)] at this
      exact this
    rw [e]
    (refine Qm (Qz (Qy (Qx fun K hK=> ?_)));refine Qq rfl rfl rfl ?_;refine Qv rfl rfl rfl ?_;refine Qj (hK _ _ (Qz (Q4 ?_)));clear hK K)
    refine Ye rfl rfl rfl
  (refine QK (Qz (Qy (Q1 (Qy ?_)))))
  refine XX (by with_reducible exact mixed) 10 (.p 0 (.p 1 (.p 2 (.p 4 (.p 5 (.p 6 (.p 7 (.f 3 (.f 8 (.p 9 .done)))))))))) (by kernel_rfl) (fun K hK=> ?_)
  (refine Qq rfl rfl rfl ?_;refine Qq rfl rfl rfl ?_)
  refine XJ l.length rfl rfl rfl (YW l) rfl (by with_reducible exact sWrs) (by omega) (by omega) rfl ?_
  (refine Qq rfl rfl rfl ?_;refine Qq rfl rfl rfl ?_;refine Qk (isub (by omega) (by omega)) rfl rfl rfl rfl ?_)
  refine XJ l.length rfl rfl rfl (YW l) rfl (by with_reducible exact sWrs) (by omega) (by omega) rfl ?_
  skip
  refine ldE wrCs wr0 wr_len rfl rfl rfl rfl rfl (by omega) (by with_reducible exact Yk) rfl ?_
  refine ldE wrCs wr0 wr_len rfl rfl rfl rfl rfl (by omega) (by with_reducible exact Yk) rfl ?_
  rw [show ((i:Int)+1).toNat=i+1 by omega,show ((i:Int)+1 - 1).toNat=i by omega]
  generalize hx:l.getD i wr0=x
  generalize hy:l.getD (i+1) wr0=y
  refine eqWr y x rfl rfl rfl rfl rfl ?_
  (refine Qj (hK _ _ (Qz ?_));clear hK K)
  have hs:=dd_step (l:=l) (z:=wr0) (p:=i+1) (by omega) (by omega)
  rw [show i+1 - 1=i by omega,hx,hy] at hs
  refine Q2 rfl (fun he=> ?_) (fun he=> ?_)
  rotate_left
  · (refine QK (Qz (Qx fun K hK=> ?_));refine Qq rfl rfl rfl ?_;refine Qk (iadd (by omega) (by omega)) rfl rfl rfl rfl ?_;refine Qv rfl rfl rfl ?_;refine Qj (hK _ _ (Q6 ?_));clear hK K)
    refine Q9 (i+1) (by omega) ⟨by omega,?_⟩ (by exact Qu rfl ⟨rfl,by simp only [Int.natCast_add];rfl,trivial⟩)
    rw [hs,if_neg he,hd,List.take_add_one (i:=i+1),List.getElem?_eq_getElem (by omega),←hy,List.getD_eq_getElem?_getD,List.getElem?_eq_getElem (by omega)];rfl
  rw [if_pos he,hd] at hs
  refine St.nameS 0 0 l.length rfl rfl (YW l) (by omega) (by decide) (fun gb c hc1 hc2=> ?_)
  (refine Qy (Qx fun K hK=> ?_);refine Qq rfl rfl rfl ?_;refine Qq rfl rfl rfl ?_)
  refine Z5 (i+1) rfl rfl rfl (by omega) sWrs (by omega) rfl ?_
  rw [if_neg (show ¬c=i+1 by omega),Nat.zero_add]
  (refine Qv rfl rfl rfl ?_;refine Qj (hK _ _ (Qz (Qy (Qy ?_))));clear hK K;refine Qx (fun K hK=> ?_);refine Qv rfl rfl rfl ?_;refine Qj (hK _ _ (Qz (Q1 ?_)));clear hK K)
  refine Qr (α:=Nat) (fun j=>i+2+j≤l.length∧(dd (l.take (i+2+j))).length<i+2+j)
    (fun j=>[(0, .ct (.ex (kh gb 0 l.length c))),(3, .ct (intC (dd (l.take (i+2+j))).length)),(4, .ct (.ex (kh gb ((i+1)*2) (l.length - (i+1)) (c - (i+1))))),(5, .ct (intC (j+1)))])
    (fun j=>[(0, .rowx (kh gb 0 l.length c) 37 2 (wrs (dd (l.take (i+2+j))++l.drop (dd (l.take (i+2+j))).length)))]) (fun j=>l.length - j) 0
    ⟨by omega,by rw [Nat.add_zero,hs,List.length_take];omega⟩ (by
      rw [Nat.add_zero,hs,List.length_take,Nat.min_eq_left hi,List.take_append_drop]
      exact Qu rfl ⟨rfl,rfl,rfl,rfl,trivial⟩) ?_
  clear hs
  rintro j ⟨hj,hD⟩
  try dsimp only at hj hD
  try dsimp only
  have hs:=dd_step (l:=l) (z:=wr0) (p:=i+2+j) (by omega)
  generalize hDD:dd (l.take (i+2+j))=D at hs hD ⊢
  have hrl:(D++l.drop D.length).length=l.length:=by rw [List.length_append,List.length_drop];omega
  have hat:∀q,D.length≤q→(D++l.drop D.length).getD q wr0=l.getD q wr0:=fun q hq=>row_at D l q wr0 hq
  (refine Qy (Qy (Qx fun K hK=> ?_));refine Qq rfl rfl rfl ?_;refine Qq rfl rfl rfl ?_)
  refine Yz rfl rfl sWrs.und rfl ?_
  (refine Qk ilss rfl rfl rfl rfl ?_;refine Qj (hK _ _ (Qz ?_));clear hK K)
  refine Q2 rfl (fun h2=> ?_) (fun h2=> ?_)
  · (refine QK (Qz (Qy (Q1 (Qy ?_)))))
    refine XX (by with_reducible exact mixed) 10 (.p 0 (.p 1 (.p 2 (.p 4 (.p 5 (.p 6 (.p 7 (.f 3 (.f 8 (.p 9 .done)))))))))) (by kernel_rfl) (fun K hK=> ?_)
    (refine Qq rfl rfl rfl ?_;refine Qq rfl rfl rfl ?_)
    refine Z6 0 (i+1) rfl rfl rfl rfl sWrs (by omega) (by omega) rfl ?_
    (refine Qq rfl rfl rfl ?_;refine Qq rfl rfl rfl ?_;refine Qk (isub (by omega) (by omega)) rfl rfl rfl rfl ?_)
    refine Z6 0 (i+1) rfl rfl rfl rfl sWrs (by omega) (by omega) rfl ?_
    skip
    refine ldE wrCs wr0 wr_len rfl rfl rfl rfl rfl (by omega) (by with_reducible exact Yk) rfl ?_
    refine ldE wrCs wr0 wr_len rfl rfl rfl rfl rfl (by omega) (by with_reducible exact Yk) rfl ?_
    rw [show i+1+((j:Int)+1).toNat=i+2+j by omega,show i+1+((j:Int)+1 - 1).toNat=i+2+j - 1 by omega,hat _ (by omega),hat _ (by omega)]
    have hs:=hs (by omega)
    generalize hx2:l.getD (i+2+j - 1) wr0=x2 at hs ⊢
    generalize hy2:l.getD (i+2+j) wr0=y2 at hs ⊢
    refine neWr y2 x2 rfl rfl rfl rfl rfl ?_
    (refine Qj (hK _ _ (Qz ?_));clear hK K)
    refine Q2 rfl (fun he2=> ?_) (fun he2=> ?_)
    · rw [if_neg he2] at hs
      (refine Qy (Qx fun K hK=> ?_);refine Qq rfl rfl rfl ?_;refine Qq rfl rfl rfl ?_;refine Qq rfl rfl rfl ?_;refine Qq rfl rfl rfl ?_)
      refine Z6 0 (i+1) rfl rfl rfl rfl sWrs (by omega) (by omega) rfl ?_
      refine ldE wrCs wr0 wr_len rfl rfl rfl rfl rfl (by omega) (by with_reducible exact Yk) rfl ?_
      rw [show i+1+((j:Int)+1).toNat=i+2+j by omega,hat _ (by omega),hy2]
      refine Z6 0 0 rfl rfl rfl rfl sWrs (by omega) (by omega) rfl ?_
      rw [Nat.zero_add,show ((D.length:Int)).toNat=D.length by omega]
      refine stEX wrCs y2 wr_len rfl rfl rfl rfl rfl (by omega) (by with_reducible exact szWire) ?_
      rw [row_set D l y2 (by omega)]
      (refine Qj (hK _ _ (Qz ?_));clear hK K;refine Qx (fun K hK=> ?_);refine Qq rfl rfl rfl ?_;refine Qk (iadd (by omega) (by omega)) rfl rfl rfl rfl ?_;refine Qv rfl rfl rfl ?_;refine Qj (hK _ _ (Qz ?_));clear hK K;refine Qx (fun K hK=> ?_);refine Qq rfl rfl rfl ?_;refine Qk (iadd (by omega) (by omega)) rfl rfl rfl rfl ?_;refine Qv rfl rfl rfl ?_;refine Qj (hK _ _ (Q6 ?_));clear hK K)
      refine Q9 (j+1) (by omega) ⟨by omega,by show (dd (l.take (i+2+j+1))).length<_;rw [hs,List.length_append];show D.length+1<_;omega⟩ ?_
      rw [show i+2+(j+1)=i+2+j+1 by omega,hs,List.length_append]
      exact Qu rfl ⟨rfl,by simp only [Int.natCast_add];rfl,rfl,by simp only [Int.natCast_add];rfl,trivial⟩
    · rw [if_pos (Decidable.not_not.1 he2)] at hs
      (refine QK (Qz (Qx fun K hK=> ?_));refine Qq rfl rfl rfl ?_;refine Qk (iadd (by omega) (by omega)) rfl rfl rfl rfl ?_;refine Qv rfl rfl rfl ?_;refine Qj (hK _ _ (Q6 ?_));clear hK K)
      refine Q9 (j+1) (by omega) ⟨by omega,by show (dd (l.take (i+2+j+1))).length<_;rw [hs];omega⟩ ?_
      rw [show i+2+(j+1)=i+2+j+1 by omega,hs]
      exact Qu rfl ⟨rfl,rfl,rfl,by simp only [Int.natCast_add];rfl,trivial⟩
  · have e:dd l=D:=by rw [←hDD,List.take_of_length_le (by omega)]
    rw [e]
    (refine Qm (Qz (Qy (Qx fun K hK=> ?_)));refine Qq rfl rfl rfl ?_;refine Qq rfl rfl rfl ?_)
    refine Z5 D.length rfl rfl rfl rfl sWrs (by omega) rfl ?_
    skip
    refine Ops.cutOff 0 D.length rfl (by show (wrs _).length=_;rw [YW,hrl]) (by decide) (by omega) (by show (wrs _).take _=wrs D;rw [wrs_take,List.take_left]) ?_
    refine Ops.clearK 0 rfl rfl (by split <;>omega) rfl (YW D) (by omega) sWrs (by decide) ?_
    (refine Qj (hK _ _ (Qz (Qy ?_)));clear hK K;refine Qx (fun K hK=> ?_);refine Qq rfl rfl rfl ?_;refine Qq rfl rfl rfl ?_)
    refine Ya D.length rfl rfl rfl rfl sWrs (by omega) rfl ?_
    (refine Qv rfl rfl rfl ?_;refine Qj (hK _ _ (Qz (Q4 (Qa (QY (QY (Qa (QY ?_))))))));clear hK K)
    refine Fin.link 2 0 rfl rfl ?_
    refine Ye rfl rfl rfl
attribute [local irreducible] OkM
abbrev Stm := Tk × Int
abbrev stmI (s : Stm) : List Int := [s.1.va, (s.1.ds.val : Int), s.1.pr, s.2]
abbrev stmE (s : Stm) : Value := Go.Own.encI ([.i64, .u32, .i64] ++ [.i64]) (stmI s)
abbrev stmV (s : Stm) : List Value := [.int .i64 s.1.va, .int .u32 (s.1.ds.val : Int), .int .i64 s.1.pr, .int .i64 s.2]
abbrev stmCs (s : Stm) : List CT := [intC s.1.va, adrF s.1.ds, intC s.1.pr, intC s.2]
theorem stmI_inj(a b:Stm)(h:stmI a=stmI b):a=b:=by
  obtain ⟨⟨a1,a2,a3⟩,a4⟩:=a
  obtain ⟨⟨b1,b2,b3⟩,b4⟩:=b
  simp only [List.cons.injEq,and_true,Int.ofNat_inj,Fin.val_inj] at h
  obtain ⟨h1,h2,h3,h4⟩:=h
  rw [h1,h2,h3,h4]
theorem uMOwn:Tryz.prog.underlying 152=some (.map 123 24):=Tryz.underlying152
theorem z0Rss(w:World):(zeroValue 24).run Tryz.prog w= .ok (.slice none 0 0) w:=ZQ (by kernel_rfl) w
theorem z0Ads(w:World):(zeroValue 93).run Tryz.prog w= .ok (.slice none 0 0) w:=ZQ (by kernel_rfl) w
abbrev tkE (t : Tk) : Value := Go.Own.encI [.i64, .u32, .i64] (tkI t)
abbrev tkVs (t : Tk) : List Value := [.int .i64 t.va, .int .u32 (t.ds.val : Int), .int .i64 t.pr]
abbrev OwM := List (Tk × List Rs)
def owF (l : List Rs) : OwM := (trsF l).foldl (fun m t => ins m t (ofF l t)) []
abbrev owM (m : OwM) : List (Value × CT) := kvs tkE rssC m
abbrev adsC (l : List (Fin 4294967296)) : CT := .fr (sliceT 1 (l.map fun x => [adrF x]))
abbrev KnM := List (Stm × List (Fin 4294967296))
abbrev knM (m : KnM) : List (Value × CT) := kvs stmE adsC m
theorem owF_look(l:List Rs)(t:Tk):(look1 (owF l) t).getD []=ofF l t:=by
  have key:∀(q:List Tk) (m:OwM),look1 (q.foldl (fun m t=>ins m t (ofF l t)) m) t=if t∈q then some (ofF l t) else look1 m t:=by
    intro q
    induction q with
    |nil=>intro m;rw [if_neg (by simp)];rfl
    |cons x q ih=>
      intro m
      rw [List.foldl_cons,ih,look1_ins]
      by_cases h:t∈q
      · rw [if_pos h,if_pos (List.mem_cons_of_mem _ h)]
      · rw [if_neg h]
        by_cases e:t=x
        · subst e;rw [if_pos rfl,if_pos (List.mem_cons_self ..)]
        · rw [if_neg e,if_neg (fun hm=>(List.mem_cons.1 hm).elim e h)]
  unfold owF
  rw [key]
  by_cases h:t∈trsF l
  · rw [if_pos h];rfl
  · rw [if_neg h]
    show []=ofF l t
    unfold ofF
    symm
    refine List.filter_eq_nil_iff.2 fun r hr=> ?_
    intro he
    refine h ?_
    have hm:=((sd_spec ordR (l.filter okR)).2 r).1 hr
    exact ((sd_spec ordT ((l.filter okR).map trOf)).2 t).2 (List.mem_map.2 ⟨r,hm,of_decide_eq_true he⟩)
def knOk (l : List Rs) (m : KnM) : Prop := ∀ s p, look1 m s = some p → p = pathF (ofF l s.1) s.2
end Go.Proofs.YtojkdfilabmafaaGreat
namespace Go.Own
open Go.RowKit
variable {X : Ctx} {L : AL} {B : BL} {ops : Array Oper} {K : Act → World → Prop}
theorem Fin.linkX(dd i:Nat){v:Value}{el n:Nat}{cs:List CT}(hd:look L dd=some (.ct (.ex v)))(hi:bget B i=some (.rowx v el n cs))(h:Fin X ((dd, .own i)::L) B K):Fin X L B K:=fun a ρ w hI=>by
  have h1:a.tmps.getD dd undef=v:=hI.slot dd _ hd
  obtain ⟨h2,_⟩:=(hI.ent i _ hi).1
  exact h a ρ w (hI.slotx (s:= .own i) (h1.trans h2.symm))
theorem Ops.linkX{l:Pl}(dd i:Nat){v:Value}{el n:Nat}{cs:List CT}(hd:look L dd=some (.ct (.ex v)))(hi:bget B i=some (.rowx v el n cs))(h:Ops X ops l ((dd, .own i)::L) B K):Ops X ops l L B K:=Fin.linkX dd i hd hi h
end Go.Own
namespace Go.Proofs.YtojkdfilabmafaaGreat
open Go.Own
attribute [local irreducible] St Ops Go.Own.Fin Ok OkB OkN OkT OkL OkF wpR
abbrev Ad := Fin 4294967296
theorem sAdrs:SlcT Tryz.prog 93 35 1 4 (.int .u32 0):=SlcT.of Tryz.underlying93 (by kernel_rfl) rfl (by decide)
theorem sPths:SlcT Tryz.prog 94 93 1 24 (.slice none 0 0):=SlcT.of Tryz.underlying94 (by kernel_rfl) rfl (by decide)
theorem lAdrs:Ld1 Tryz.prog 93:=Ld1.of _ Tryz.underlying93 rfl
theorem lPths:Ld1 Tryz.prog 94:=Ld1.of _ Tryz.underlying94 rfl
theorem zPths:(Tryz.prog.info? 94).map (·.size)=some 1:=by kernel_rfl
abbrev zNet : Value := .agg #[.int .i64 0, .int .u32 0, .int .i64 0, .slice none 0 0, .int .u32 0]
abbrev adrsC (p : List Ad) : CT := .fr (sliceT 1 (p.map fun x => [adrF x]))
def adrs (p : List Ad) : List CT := p.map adrF
theorem adrs_frozen(e:Nat)(p:List Ad):(Ent.row e 1 (adrs p)).frozen (sliceT 1 (p.map fun x=>[adrF x])):=
  ⟨p.map fun x=>[adrF x],(flat_one adrF p).symm,by simp,by decide,rfl⟩
theorem adrs_at{p:List Ad}{j:Int}(h0:0≤j)(h:j<(p.length:Int)):(p.map fun x=>[adrF x])[j.toNat]? =some [adrF (p.getD j.toNat 0)]:=by
  have hl:j.toNat<p.length:=by omega
  rw [List.getElem?_map,List.getElem?_eq_getElem hl,List.getD_eq_getElem?_getD,List.getElem?_eq_getElem hl];rfl
abbrev pthsC (ps : List (List Ad)) : CT := .fr (sliceT 1 (ps.map fun p => [adrsC p]))
def pths (ps : List (List Ad)) : List CT := ps.map adrsC
theorem pths_at{ps:List (List Ad)}{j:Int}(h0:0≤j)(h:j<(ps.length:Int)):(ps.map fun x=>[adrsC x])[j.toNat]? =some [adrsC (ps.getD j.toNat [])]:=by
  have hl:j.toNat<ps.length:=by omega
  rw [List.getElem?_map,List.getElem?_eq_getElem hl,List.getD_eq_getElem?_getD,List.getElem?_eq_getElem hl];rfl
structure Nt where
  va : Int
  ds : Ad
  pr : Int
  ps : List (List Ad)
  la : Ad
abbrev ntCs (q : Nt) : List CT := [intC q.va, adrF q.ds, intC q.pr, pthsC q.ps, adrF q.la]
structure NtIn (q : Nt) : Prop where
  v0 : 0 ≤ q.va
  v1 : q.va < 2
  d0 : q.ds ≠ 0
  p0 : q.pr = 17 ∨ q.pr = 1 ∨ q.pr = 6
  a0 : q.la ≠ 0
  l0 : 1 ≤ q.ps.length
  l1 : q.ps.length ≤ 3
  pl : ∀ p ∈ q.ps, 1 ≤ p.length ∧ p.length ≤ 3
def nts (l : List Nt) : List CT := (l.map ntCs).flatten
end Go.Proofs.YtojkdfilabmafaaGreat
namespace Go.Proofs.YtojkdfilabmafaaGreat
open Go.Own Go.Limbs Go.Shelf
open Go.Sort hiding Ok
attribute [local irreducible] St Ops Go.Own.Fin Ok OkB OkN OkT OkL OkF
def wsG : _root_.Fin 4294967296 → List (_root_.Fin 4294967296) → List Wr
  | _, [] => []
  | p, a :: l => (p, a) :: wsG a l
theorem wsG_len:∀(l:List (_root_.Fin 4294967296)) (p:_root_.Fin 4294967296),(wsG p l).length=l.length
  | [],_=>rfl
  |a::l,p=>by rw [wsG,List.length_cons,wsG_len l a,List.length_cons]
def pvA (p : List (_root_.Fin 4294967296)) (i : Nat) : _root_.Fin 4294967296 := if i = 0 then 0 else p.getD (i - 1) 0
theorem wsG_snoc:∀(l:List (_root_.Fin 4294967296)) (q a:_root_.Fin 4294967296),wsG q (l++ [a])=wsG q l++ [(if l=[] then q else l.getD (l.length - 1) 0,a)]
  | [],q,a=>rfl
  |b::l,q,a=>by
    show (q,b)::wsG b (l++ [a])=_
    rw [wsG_snoc l b a]
    cases l with
    |nil=>rfl
    |cons c l=>
      show _=(q,b)::(wsG b (c::l)++ [(if b::c::l=[] then q else (b::c::l).getD ((b::c::l).length - 1) 0,a)])
      rw [if_neg (by simp),if_neg (by simp)]
      rfl
def wsO (p : List (_root_.Fin 4294967296)) : List Wr × Bool := if p.all (fun a => decide (a ≠ 0)) then (wsG 0 p, true) else ([], false)
theorem gowires:InGo Tryz.prog 88:=InGo.of Tryz.func88 rfl (by decide)
set_option maxHeartbeats 8000000 in
theorem wires_ok(p:List (_root_.Fin 4294967296))(hl:p.length≤1000000):Ok Tryz.prog 88 [adsC p] (.fr (tupT [wrsC (wsO p).1,boolC (wsO p).2])):=by
  refine Ok.enter Tryz.func88 rfl _ Tryz.ntmps88 rfl ?_
  intro S w
  (refine Qy (Qx fun K hK=> ?_);refine Qv rfl rfl rfl ?_;refine Qv rfl rfl rfl ?_;refine Qj (hK _ _ (Qz (Qy ?_)));clear hK K;refine Qx (fun K hK=> ?_);refine Qv rfl rfl rfl ?_;refine Qj (hK _ _ (Qz (Qy ?_)));clear hK K;refine Qx (fun K hK=> ?_);refine Qv rfl rfl rfl ?_;refine Qj (hK _ _ (Qz (Qy (Qy ?_))));clear hK K;refine Qx (fun K hK=> ?_);refine Qq rfl rfl rfl ?_;refine Qf rfl rfl (by with_reducible first|exact sTks.und|exact sWrs.und|exact sIks.und|exact sAdrs.und) (List.length_map ..) rfl ?_;refine Qq rfl rfl rfl ?_;refine Qj (hK _ _ (Qz (Q1 ?_)));clear hK K)
  refine Yj 4 0 37 2 rfl rfl rfl ?_
  refine Qr (α:=Nat) (fun i=>i≤p.length∧∀a∈p.take i,a≠0)
    (fun i=>[(4, .own 0),(5, .ct (adrF (pvA p i))),(8, .ct (adsC p)),(9, .ct (intC p.length)),(10, .ct (intC i))])
    (fun i=>[(0, .row 37 2 (wrs (wsG 0 (p.take i))))]) (fun i=>p.length - i) 0 ⟨Nat.zero_le _,by simp⟩ (by exact Qu rfl ⟨rfl,rfl,rfl,rfl,rfl,trivial⟩) ?_
  intro i ⟨hi,hnz⟩
  try dsimp only at hi hnz ⊢
  (refine Qy (Qx fun K hK=> ?_);refine Qk ilss rfl rfl rfl rfl ?_;refine Qj (hK _ _ (Qz (Qy ?_)));clear hK K)
  refine Q2 rfl (fun h=> ?_) (fun h=> ?_)
  rotate_left
  · rw [List.take_of_length_le (by omega)] at hnz ⊢
    have e:wsO p=(wsG 0 p,true):=if_pos (List.all_eq_true.2 fun a ha=>decide_eq_true (hnz a ha))
    rw [e]
    (refine Qm (Qz (Qy (Qx fun K hK=> ?_)));refine Qq rfl rfl rfl ?_;refine Qv rfl rfl rfl ?_;refine Qv rfl rfl rfl ?_;refine Qj (hK _ _ (Qz (Q4 ?_)));clear hK K)
    refine Y6 0 _ rfl (wrs_frozen _ _) noBor_sub ?_
    refine Q3 [_,_] rfl (QQ rfl (QQ rfl QZ)) rfl rfl
  have e2:(i:Int).toNat=i:=Int.toNat_natCast i
  have hs:p.take (i+1)=p.take i++ [p.getD i 0]:=by
    rw [List.take_add_one,List.getElem?_eq_getElem (by omega),List.getD_eq_getElem?_getD,List.getElem?_eq_getElem (by omega)];rfl
  have hw:wsG 0 (p.take (i+1))=wsG 0 (p.take i)++ [(pvA p i,p.getD i 0)]:=by
    rw [hs,wsG_snoc]
    congr 2
    unfold pvA
    by_cases h0:i=0
    · subst h0;rfl
    · rw [if_neg (fun h=>by have:=congrArg List.length h;rw [List.length_take,List.length_nil] at this;omega),if_neg h0,List.length_take,Nat.min_eq_left hi,List.getD_eq_getElem?_getD,List.getElem?_take_of_lt (by omega),←List.getD_eq_getElem?_getD]
  have hp:pvA p (i+1)=p.getD i 0:=rfl
  have hwl:(wsG 0 (p.take i)).length=i:=by rw [wsG_len,List.length_take];omega
  have hmem:p.getD i 0∈p:=by rw [List.getD_eq_getElem?_getD,List.getElem?_eq_getElem (by omega)];exact List.getElem_mem _
  (refine QK (Qz (Qy (Q1 (Qy (Qx fun K hK=> ?_))))))
  refine Qt rfl rfl rfl (by with_reducible exact sAdrs) (by omega) (adrs_at (by omega) (by omega)) rfl ?_
  rw [e2]
  generalize p.getD i 0=a at hs hw hp hmem
  generalize pvA p i=b at hw
  generalize wsG 0 (p.take i)=ws at hw hwl ⊢
  refine XU rfl rfl rfl (by with_reducible exact lAddr) rfl ?_
  (refine Qv rfl rfl rfl ?_;refine Qj (hK _ _ (Qz (Qy (Qy ?_))));clear hK K;refine Qx (fun K hK=> ?_);refine Qq rfl rfl rfl ?_;refine Qk ieql rfl rfl rfl rfl ?_;refine Qj (hK _ _ (Qz ?_));clear hK K)
  refine Q2 rfl (fun h2=> ?_) (fun h2=> ?_)
  · have h2:a=0:=_root_.Fin.ext (by have e0:((0:_root_.Fin 4294967296).val)=0:=rfl;omega)
    have e:wsO p=([],false):=if_neg (by rw [List.all_eq_true];exact fun h=>of_decide_eq_true (h a hmem) h2)
    rw [e]
    (refine Qy (Qx fun K hK=> ?_);refine Qv rfl rfl rfl ?_;refine Qv rfl rfl rfl ?_;refine Qj (hK _ _ (Qz (Q4 (QY (Qa (QY (QY (Qa (QY ?_)))))))));clear hK K)
    refine Q3 [_,_] rfl (Xd Yc (QQ rfl (QQ rfl QZ))) rfl rfl
  have h2:a≠0:=fun h=>h2 (by rw [h];rfl)
  (refine QK (Qz (Qy (Qx fun K hK=> ?_)));refine Qq rfl rfl rfl ?_;refine Qq rfl rfl rfl ?_;refine Qq rfl rfl rfl ?_)
  refine Qo rfl (by with_reducible exact bWire) rfl (.one rfl rfl rfl rfl (.one rfl rfl rfl rfl .nil)) rfl ?_
  refine Ze (n:=2) rfl rfl (by with_reducible exact sWrs) rfl rfl (by decide) rfl ?_
  refine Xq ws.length (wrs (ws++ [(b,a)])) rfl rfl rfl rfl (by with_reducible exact sWrs) (YW ws) rfl (by omega) (by omega) (wrs_snoc ws (b,a)) rfl ?_
  (refine Qv rfl rfl rfl ?_;refine Qj (hK _ _ (Qz ?_));clear hK K;refine Qx (fun K hK=> ?_);refine Qq rfl rfl rfl ?_;refine Qv rfl rfl rfl ?_;refine Qj (hK _ _ (Qz ?_));clear hK K;refine Qx (fun K hK=> ?_);refine Qk (iadd (by omega) (by omega)) rfl rfl rfl rfl ?_;refine Qq rfl rfl rfl ?_;refine Qj (hK _ _ (Q6 ?_));clear hK K)
  refine Q9 (i+1) (by omega) ⟨by omega,fun x hx=> ?_⟩ (by rw [hw,hp];exact Qu rfl ⟨rfl,rfl,rfl,rfl,by simp only [Int.natCast_add];rfl,trivial⟩)
  rw [hs] at hx
  rcases List.mem_append.1 hx with hx|hx
  · exact hnz x hx
  · rw [List.mem_singleton] at hx;rw [hx];exact h2
theorem goDcmp:InGo Tryz.prog 50:=InGo.of Tryz.func50 rfl (by decide)
theorem Dcmp_ok(a b:Wr):Ok Tryz.prog 50 [wrC a,wrC b] (intC (cmpW a b)):=by
  have e0:cmpW a b=firstN [cmp3 a.1.val b.1.val,cmp3 a.2.val b.2.val]:=by
    unfold cmpW wrI
    simp only [cmpL,firstN]
  rw [e0]
  clear e0
  have h1:=cmA_ok (a.1.val:Int) (b.1.val:Int)
  have h2:=cmA_ok (a.2.val:Int) (b.2.val:Int)
  have hO:=Or_ok [cmp3 a.1.val b.1.val,cmp3 a.2.val b.2.val] (by simp)
  generalize cmp3 (a.1.val:Int) (b.1.val:Int)=c1 at h1 hO ⊢
  generalize cmp3 (a.2.val:Int) (b.2.val:Int)=c2 at h2 hO ⊢
  refine Ok.enter Tryz.func50 rfl _ Tryz.ntmps50 rfl ?_
  intro S w
  (refine Qy (Qx fun K hK=> ?_);refine XQ 0 rfl rfl rfl rfl rfl rfl rfl ?_;refine XQ 1 rfl rfl rfl rfl rfl rfl rfl ?_;refine Qv rfl rfl rfl ?_;refine Qj (hK _ _ (Qz (Qy ?_)));clear hK K)
  refine XX (by with_reducible exact mixed) 13 (.p 0 (.p 2 (.p 5 (.p 7 (.f 1 (.f 3 (.f 6 (.f 8 (.m 4 (.m 9 (.m 10 (.m 11 (.p 12 .done))))))))))))) (by kernel_rfl) (fun K hK=> ?_)
  (refine QJ rfl rfl rfl (by with_reducible first|exact fTk0|exact fTk1|exact fTk2|exact fWr0|exact fWr1|exact fTrav0|exact fTrav1|exact fStm0|exact fStm1|exact fCn0|exact fCn1|exact fCn2|exact fCn3|exact fCs0|exact fCs1) rfl ?_;refine QJ rfl rfl rfl (by with_reducible first|exact fTk0|exact fTk1|exact fTk2|exact fWr0|exact fWr1|exact fTrav0|exact fTrav1|exact fStm0|exact fStm1|exact fCn0|exact fCn1|exact fCn2|exact fCn3|exact fCs0|exact fCs1) rfl ?_;refine QJ rfl rfl rfl (by with_reducible first|exact fTk0|exact fTk1|exact fTk2|exact fWr0|exact fWr1|exact fTrav0|exact fTrav1|exact fStm0|exact fStm1|exact fCn0|exact fCn1|exact fCn2|exact fCn3|exact fCs0|exact fCs1) rfl ?_;refine QJ rfl rfl rfl (by with_reducible first|exact fTk0|exact fTk1|exact fTk2|exact fWr0|exact fWr1|exact fTrav0|exact fTrav1|exact fStm0|exact fStm1|exact fCn0|exact fCn1|exact fCn2|exact fCn3|exact fCs0|exact fCs1) rfl ?_;refine QX rfl rfl rfl rfl rfl (by with_reducible first|exact lInt|exact lAddr|exact lBool1|exact Zm) rfl ?_;refine QX rfl rfl rfl rfl rfl (by with_reducible first|exact lInt|exact lAddr|exact lBool1|exact Zm) rfl ?_;refine QX rfl rfl rfl rfl rfl (by with_reducible first|exact lInt|exact lAddr|exact lBool1|exact Zm) rfl ?_;refine QX rfl rfl rfl rfl rfl (by with_reducible first|exact lInt|exact lAddr|exact lBool1|exact Zm) rfl ?_)
  refine QV gocmA h1 rfl rfl rfl rfl ?_
  refine QV gocmA h2 rfl rfl rfl rfl ?_
  refine Ops.litI [c1,c2] rfl rfl (by with_reducible exact sInts) rfl ⟨rfl,rfl,rfl,rfl,trivial⟩ (by decide) rfl ?_
  refine QV goOr hO rfl rfl rfl rfl ?_
  (refine Qv rfl rfl rfl ?_;refine Qj (hK _ _ (Qz (Q4 ?_)));clear hK K)
  refine Q3 [_] rfl (QQ rfl QZ) rfl rfl
abbrev cmpDV : CT := .ex (.func (.func 50) #[] #[])
theorem SortD_ok(l:List Wr)(hl:l.length<4611686018427387904):OkL Tryz.prog 61 37 2 (wrs l) [cmpDV] unitC (wrs (l.mergeSort fun x y=> !(ltOf cmpW) y x)):=
  sortFunc_L laySortW (enc:=wr2) (k:=2) (cf:=cmpW) (g:=50) (by decide) Tryz.isAgg37 Tryz.sizeOf37 (fun _=>rfl) (fun x v hv=>one_two x v hv)
    ordW.swo ordW.tot goDcmp Dcmp_ok 37 l hl
end Go.Proofs.YtojkdfilabmafaaGreat
namespace Go.Proofs.YtojkdfilabmafaaGreat
open Go.Own Go.Limbs
attribute [local irreducible] St Ops Go.Own.Fin Ok OkB OkN OkT OkL OkF
abbrev spE (s : Sp) : Value := Go.Own.encI [.i64, .i64] [s.1, s.2]
theorem eqSp:EqS Tryz.prog 228 [.i64, .i64]:=⟨by kernel_rfl,by kernel_rfl,by kernel_rfl,by kernel_rfl⟩
theorem Xl:KeyT Tryz.prog 228 spE:=eqSp.flat.key (fun s:Sp=>[s.1,s.2]) (fun _=>rfl) (fun a b h=>by
  obtain ⟨a1,a2⟩:=a;obtain ⟨b1,b2⟩:=b
  simp only [List.cons.injEq,and_true] at h
  rw [h.1,h.2])
theorem uMAd:Tryz.prog.underlying 221=some (.map 228 35):=Tryz.underlying221
theorem uMSt:Tryz.prog.underlying 222=some (.map 228 3):=Tryz.underlying222
theorem lMAd:Ld1 Tryz.prog 221:=Ld1.of _ Tryz.underlying221 rfl
theorem lMSt:Ld1 Tryz.prog 222:=Ld1.of _ Tryz.underlying222 rfl
theorem fV0:fldInfo Tryz.prog 224 0=some (0,some 1):=by kernel_rfl
theorem fV1:fldInfo Tryz.prog 224 1=some (1,some 1):=by kernel_rfl
theorem fV2:fldInfo Tryz.prog 224 2=some (2,some 1):=by kernel_rfl
theorem lView:LdN Tryz.prog 224 3:=LdN.of _ Tryz.underlying224 rfl (by kernel_rfl)
theorem szView:(Tryz.prog.info? 224).map (·.size)=some 3:=by kernel_rfl
theorem zvView:(Tryz.prog.info? 224).map (·.zero)=some (some (.agg #[.int .i64 0, .map none, .map none])):=by kernel_rfl
theorem bView:bInfo Tryz.prog 224=some (.agg #[.int .i64 0, .map none, .map none],[(0,some 1),(1,some 1),(2,some 1)]):=by kernel_rfl
theorem Yi:LdN Tryz.prog 228 2:=LdN.of _ Tryz.underlying228 rfl (by kernel_rfl)
theorem szSpot:(Tryz.prog.info? 228).map (·.size)=some 2:=by kernel_rfl
theorem zvSpot:(Tryz.prog.info? 228).map (·.zero)=some (some (.agg #[.int .i64 0, .int .i64 0])):=by kernel_rfl
theorem bSpot:bInfo Tryz.prog 228=some (.agg #[.int .i64 0, .int .i64 0],[(0,some 1),(1,some 1)]):=by kernel_rfl
theorem z0Int(w:World):(zeroValue 3).run Tryz.prog w= .ok (.int .i64 0) w:=ZQ (by kernel_rfl) w
theorem z0Adr(w:World):(zeroValue 35).run Tryz.prog w= .ok (.int .u32 0) w:=ZQ (by kernel_rfl) w
abbrev adM (m : AdM) : List (Value × CT) := kvs spE adrF m
abbrev stM (m : StM) : List (Value × CT) := kvs spE intC m
abbrev viewC (e : Int) (m : AdM × StM) : CT := .fr (aggT [intC e, .fr (mapT (adM m.1)), .fr (mapT (stM m.2))])
theorem goHas:InGo Tryz.prog 151:=InGo.of Tryz.func151 rfl (by decide)
theorem Has_ok(e fl tt:Int)(m:AdM × StM):Ok Tryz.prog 151 [viewC e m,intC fl,intC tt] (boolC (hasS m.2 fl tt)):=by
  have e0:hasS m.2 fl tt=(decide ((look1 m.2 (fl,tt)).getD 0=2)||decide ((look1 m.2 (fl,tt)).getD 0=1)):=rfl
  refine Ok.enter Tryz.func151 J _ Tryz.ntmps151 J ?_
  intro S w;refine Qy (Qx fun K hK=> ?_);refine XQ 0 J J J J J J J (Qv J J J (Qj (hK _ _ (Qz (Qy ?_)))));clear hK K;refine Qx (fun K hK=> ?_);refine QJ J J J fV2 J (QX J J J J J lMSt J (Qq J J J (Qq J J J (Qo J bSpot J (.one J J J J (.one J J J J .nil)) J (Ops.lookF (cv:=intC) (enc:=spE) 0 (fl,tt) J J J (KeyIs.agg (us:=[.int .i64 fl, .int .i64 tt]) J) uMSt z0Int (fun _ _=>rfl) Xl J ?_)))));generalize (look1 m.2 (fl,tt)).getD 0=q at e0;refine Qv J J J (Qj (hK _ _ (Qz (Qy ?_))));clear hK K;refine Qx (fun K hK=> ?_);refine Qq J J J (Qk ieql J J J J (Qq J J J (Qi 16 (p:=q=2) J (fun h=> ?_) (fun h=> ?_))))
  · refine Qw J J J (Qw J J J (Q5 J J J J (Qv J J J (Qj (hK _ _ (Qz (Q4 ?_)))))));clear hK K;refine Q3 [_] rfl (QQ J QZ) (by rw [e0,decide_eq_true h,Bool.true_or];rfl) J
  · refine Qq J J J (Qk ieql J J J J (Q8 J J J J (Qv J J J (Qj (hK _ _ (Qz (Q4 ?_)))))));clear hK K;refine Q3 [_] rfl (QQ J QZ) (by rw [e0,decide_eq_false h,Bool.false_or];rfl) J
theorem goLook:InGo Tryz.prog 150:=InGo.of Tryz.func150 rfl (by decide)
set_option maxHeartbeats 8000000 in
theorem Look_ok(l:List Rs)(hl:l.length≤100000):Ok Tryz.prog 150 [rssC l] (viewC (endF l) (lookG l)):=by
  have hE:=End_ok l hl;have e0:lookG l=l.foldl (lookS (endF l)) ([],[]):=rfl;rw [e0];clear e0;generalize endF l=e at hE ⊢
  refine Ok.enter Tryz.func150 J _ Tryz.ntmps150 J ?_
  intro S w;refine Qy (Qx fun K hK=> ?_);refine Qg 0 J J zvView J J J (Qj (hK _ _ (Qz (Qy ?_))));clear hK K;refine Qx (fun K hK=> ?_);refine Qq J J J (QV goEnd hE J J J J (Ops.mkMap 8 J J J J J (fun v1 hv1=> ?_)));refine Ops.mkMap 9 J J J J J (fun v2 hv2=> ?_);refine Qo J bView J (.one J J J J (.one J J hv1 J (.one J J hv2 J .nil))) J (Qg 1 J J zvView J J J (Qb 3 J J J J (by show (true&&(Value.oneCell' v1&&(Value.oneCell' v2&&true)))=true;rw [hv1,hv2];rfl) szView J J ?_));refine Qj (hK _ _ (Qz (Qy (Qy ?_))));clear hK K;refine Qx (fun K hK=> ?_);refine Qq J J J (Qf J J sRes.und (List.length_map ..) J (Qq J J J (Qj (hK _ _ (Qz (Q1 ?_))))));clear hK K
  refine Qr (α:=Nat) (fun i=>i≤l.length)
    (fun i=>[(2, .own 0),(3, .own 1),(13, .ct (rssC l)),(14, .ct (intC l.length)),(15, .ct (intC i))])
    (fun i=>[(1, .box 224 [intC e, .ex v1, .ex v2]),(9, .mpx v2 (stM ((l.take i).foldl (lookS e) ([],[])).2)),(8, .mpx v1 (adM ((l.take i).foldl (lookS e) ([],[])).1)),(0, .box 224 [intC 0, .ex (.map none), .ex (.map none)])])
    (fun i=>l.length - i) 0 (Nat.zero_le _) (by exact Qu J ⟨rfl,rfl,rfl,rfl,rfl,trivial⟩) ?_
  intro i hi
  try dsimp only at hi ⊢
  refine Qy (Qx fun K hK=> ?_);refine Qk ilss J J J J (Qj (hK _ _ (Qz (Qy ?_))));clear hK K;refine Q2 J (fun h=> ?_) (fun h=> ?_)
  · have e2:(i:Int).toNat=i:=Int.toNat_natCast i;have hs:=foldl_take (lookS e) ([],[]) (z:=rs0) (l:=l) (i:=i) (by omega);generalize (l.take i).foldl (lookS e) ([],[])=m at hs ⊢
    have next:∀m' :AdM × StM,lookS e m (l.getD i rs0)=m'→(l.take (i+1)).foldl (lookS e) ([],[])=m' :=fun m' h=>by rw [hs,h]
    clear hs;refine QK (Qz (Qy ?_))
    refine YJ (α:=AdM × StM) (fun q=>lookS e m (l.getD i rs0)=q) (fun _=>[(2, .own 0),(3, .own 1),(13, .ct (rssC l)),(14, .ct (intC l.length)),(15, .ct (intC i))])
      (fun q=>[(1, .box 224 [intC e, .ex v1, .ex v2]),(9, .mpx v2 (stM q.2)),(8, .mpx v1 (adM q.1)),(0, .box 224 [intC 0, .ex (.map none), .ex (.map none)])]) (fun q hq=> ?_) (fun KN hM=> ?_)
    · have en:=next q hq;refine Qx (fun K hK=> ?_)
      refine Qk (iadd (by omega) (by omega)) J J J J ?_
      refine Qq J J J (Qj (hK _ _ (Q6 ?_)));clear hK K;refine Q9 (i+1) (by omega) (by omega) (by rw [en];exact Qu J ⟨rfl,rfl,rfl,rfl,by simp only [Int.natCast_add];rfl,trivial⟩)
    clear next;refine Q1 (Qy (Qx (fun K hK=> ?_)))
    refine Qt J J J sRes (by omega) (rss_at (by omega) (by omega)) J ?_
    rw [e2];generalize l.getD i rs0=c at hM ⊢;refine X9 (n:=17) J J J lRes J J (Qg 2 J J zvRes J J J (Qb 17 J J J J J szRes J J (Qj (hK _ _ ?_))));clear hK K
    refine Qz ?_
    have hU:=Usable_ok c
    have es:lookS e m c=if usR c=false∨(0<e∧e<c.tt) then m
      else if c.an=false then (m.1,ins m.2 (c.fl,c.tt) (max ((look1 m.2 (c.fl,c.tt)).getD 0) 1))
      else if (look1 m.2 (c.fl,c.tt)).getD 0≤1 then (ins m.1 (c.fl,c.tt) c.fr,ins m.2 (c.fl,c.tt) 2)
      else if (look1 m.2 (c.fl,c.tt)).getD 0=2∧(look1 m.1 (c.fl,c.tt)).getD 0≠c.fr then (ins m.1 (c.fl,c.tt) 0,ins m.2 (c.fl,c.tt) 3)
      else m:=rfl
    generalize usR c=ub at hU es;refine Qy (Qy ?_)
    refine YJ (α:=Bool) (fun b=>b=true↔(ub=false∨(0<e∧e<c.tt)))
      (fun b=>[(2, .own 0),(3, .own 1),(5, .own 2),(13, .ct (rssC l)),(14, .ct (intC l.length)),(15, .ct (intC i)),(33, .ct (boolC b))])
      (fun _=>[(2, .box 47 (rsCs c)),(1, .box 224 [intC e, .ex v1, .ex v2]),(9, .mpx v2 (stM m.2)),(8, .mpx v1 (adM m.1)),(0, .box 224 [intC 0, .ex (.map none), .ex (.map none)])]) (fun b hb=> ?_) (fun KK hN=> ?_)
    rotate_left
    · refine Qx (fun K hK=> ?_);refine Qe (n:=17) J J J J J lRes J (QV goUsable hU J J J J (Xx J J J (Qq J J J (Xc 22 (b:= !ub) J (fun h1=> ?_) (fun h1=> ?_)))))
      · refine Qw J J J (Qw J J J (Qw J J J (Qw J J J (Qw J J J (Qw J J J (Qw J J J (Qw J J J (Qw J J J (Qw J J J (Q5 J J J J (Qj (hK _ _ ?_))))))))))));clear hK K;exact Xk hN true (iff_of_true J (.inl (by simpa using h1))) (by exact Qu J ⟨rfl,rfl,rfl,rfl,rfl,rfl,rfl,trivial⟩)
      · have hub:ub=true:=by simpa using h1
        refine QJ J J J fV0 J (QX J J J J J lInt J (Qk igtr J J J J (Qq J J J (Qi 26 (p:=0<e) J (fun h3=> ?_) (fun h3=> ?_)))))
        · refine QJ J J J fS7 J (QX J J J J J lInt J (QJ J J J fV0 J (QX J J J J J lInt J (Qk igtr J J J J (Q5 J J J J (Q8 J J J J (Qj (hK _ _ ?_))))))));clear hK K;exact Xk hN (decide (e<c.tt)) (by rw [decide_eq_true_iff];constructor;exact fun h=> .inr ⟨h3,h⟩;exact fun h=>h.elim (fun h=>by rw [hub] at h;cases h) (·.2)) (by exact Qu J ⟨rfl,rfl,rfl,rfl,rfl,rfl,rfl,trivial⟩)
        · refine Qw J J J (Qw J J J (Qw J J J (Qw J J J (Qw J J J (Q8 J J J J (Q8 J J J J (Qj (hK _ _ ?_))))))));clear hK K;exact Xk hN false (iff_of_false (by decide) (fun h=>h.elim (fun h=>by rw [hub] at h;cases h) (fun h=>h3 h.1))) (by exact Qu J ⟨rfl,rfl,rfl,rfl,rfl,rfl,rfl,trivial⟩)
    cases b with
    |true=>
      have es:lookS e m c=m:=by rw [es,if_pos (hb.1 J)]
      refine XZ J (Qm (Zn (Fin.blockE ?_)));exact Xk hM _ es (Qd 2 (by exact Qu J ⟨rfl,rfl,rfl,rfl,rfl,trivial⟩))
    |false=>
      rw [if_neg (fun h=>by have:=hb.2 h;cases this)] at es;refine Xw J (QK (Qz (Qy (Qx fun K hK=> ?_))));refine QJ J J J fS6 J (QX J J J J J lInt J (QJ J J J fS7 J (QX J J J J J lInt J (Qo J bSpot J (.one J J J J (.one J J J J .nil)) J (Qg 3 J J zvSpot J J J (Qb 2 J J J J J szSpot J J (Qj (hK _ _ (Qz (Qy ?_))))))))));clear hK K;refine Qx (fun K hK=> ?_);refine QJ J J J fV2 J (QX J J J J J lMSt J (Qe (n:=2) J J J J J Yi J (Ops.lookM (i:=9) (cv:=intC) (enc:=spE) 0 (c.fl,c.tt) J J J J (KeyIs.agg (us:=[.int .i64 c.fl, .int .i64 c.tt]) J) uMSt z0Int (fun _ _=>rfl) Xl J ?_)));generalize (look1 m.2 (c.fl,c.tt)).getD 0=kn at es ⊢;refine Qv J J J (Qj (hK _ _ (Qz (Q1 (Qy ?_)))));clear hK K;refine Qx (fun K hK=> ?_);refine QJ J J J fS8 J (QX J J J J J lBool1 J (Xx J J J (Qv J J J (Qj (hK _ _ (Qz ?_))))));clear hK K;refine X6 J (fun h1=> ?_) (fun h1=> ?_)
      · have h1' :c.an=false:=by simpa using h1
        rw [if_pos h1'] at es;refine Qx (fun K hK=> ?_);refine QJ J J J fV2 J (QX J J J J J lMSt J (Qe (n:=2) J J J J J Yi J (Qq J J J (Ops.max2 J J J J (Xu (i:=9) (enc:=spE) (cv:=intC) (c.fl,c.tt) (max kn 1) J J J (KeyIs.agg (us:=[.int .i64 c.fl, .int .i64 c.tt]) J) J uMSt Xl (Qj (hK _ _ (Ql (Ql ?_)))))))));clear hK K;exact Xk hM _ es (Qd 3 (Qd 2 (by exact Qu J ⟨rfl,rfl,rfl,rfl,rfl,trivial⟩)))
      · have h1' :c.an=true:=by simpa using h1
        rw [if_neg (fun h=>by rw [h1'] at h;cases h)] at es;refine Qy (Qx fun K hK=> ?_);refine Qq J J J (Qk ileq J J J J (Qv J J J (Qj (hK _ _ (Qz ?_)))));clear hK K;refine Q2 J (fun h2=> ?_) (fun h2=> ?_)
        · rw [if_pos h2] at es;refine Yq mixed [9,10] (.p 0 (.p 3 (.p 6 (.p 7 (.f 1 (.f 2 (.m 4 (.m 5 (.m 8 (.a 9 (.a 10 .done .non) .non) (.a 9 (.f 8 (.a 10 .done .non)) .non)) (.m 8 (.m 5 (.a 9 (.a 10 .done .non) .non) (.a 9 (.f 5 (.a 10 .done .non)) .non)) (.a 9 (.f 5 (.f 8 (.a 10 .done .non))) .non))) (.m 5 (.m 4 (.m 8 (.a 9 (.a 10 .done .non) .non) (.a 9 (.f 8 (.a 10 .done .non)) .non)) (.m 8 (.m 4 (.a 9 (.a 10 .done .non) .non) (.a 9 (.f 4 (.a 10 .done .non)) .non)) (.a 9 (.f 4 (.f 8 (.a 10 .done .non))) .non))) (.m 8 (.m 4 (.m 5 (.a 9 (.a 10 .done .non) .non) (.a 9 (.f 5 (.a 10 .done .non)) .non)) (.m 5 (.m 4 (.a 9 (.a 10 .done .non) .non) (.a 9 (.f 4 (.a 10 .done .non)) .non)) (.a 9 (.f 4 (.f 5 (.a 10 .done .non))) .non))) (.a 9 (.f 4 (.f 5 (.f 8 (.a 10 .done .non)))) .non)))))))))) (by kernel_rfl) (fun K hK=> ?_);refine Qs (QJ J J J fV2 J (Qj (Qs (QJ J J J fV1 J (Qj (Qs (QJ J J J fS11 J (Qj (Qs (Z2 J J fN0 J (Qj (Xp (QX J J J J J lMSt J (Qj (Xp (Qe (n:=2) J J J J J Yi J (Qj (XK ?_ ?_))))))))))))))))))
          · refine QX J J J J J lMAd J (Qj (XK ?_ ?_))
            · refine Qe (n:=2) J J J J J Yi J (Qj (XK ?_ ?_))
              · refine QX J J J J J lAddr J (Qj (Qn ?_ Q7));refine Xu (i:=9) (enc:=spE) (cv:=intC) (c.fl,c.tt) 2 J J J (KeyIs.agg (us:=[.int .i64 c.fl, .int .i64 c.tt]) J) J uMSt Xl (Qj (Qn ?_ Q7));refine Xu (i:=8) (enc:=spE) (cv:=adrF) (c.fl,c.tt) c.fr J J J (KeyIs.agg (us:=[.int .i64 c.fl, .int .i64 c.tt]) J) J uMAd Xl (Qj (Xv (hK _ _ ?_)));refine Ql (Ql ?_);exact Xk hM _ es (Qd 3 (Qd 2 (by exact Qu J ⟨rfl,rfl,rfl,rfl,rfl,trivial⟩)))
              refine Qn ?_ Q7
              refine Xu (i:=9) (enc:=spE) (cv:=intC) (c.fl,c.tt) 2 J J J (KeyIs.agg (us:=[.int .i64 c.fl, .int .i64 c.tt]) J) J uMSt Xl (Qj (Xp (QX J J J J J lAddr J (Qj (Qn ?_ Q7)))));refine Xu (i:=8) (enc:=spE) (cv:=adrF) (c.fl,c.tt) c.fr J J J (KeyIs.agg (us:=[.int .i64 c.fl, .int .i64 c.tt]) J) J uMAd Xl (Qj (Xv (hK _ _ ?_)));refine Ql (Ql ?_);exact Xk hM _ es (Qd 3 (Qd 2 (by exact Qu J ⟨rfl,rfl,rfl,rfl,rfl,trivial⟩)))
            refine XK ?_ ?_
            · refine QX J J J J J lAddr J (Qj (XK ?_ ?_))
              · refine Qe (n:=2) J J J J J Yi J (Qj (Qn ?_ Q7));refine Xu (i:=9) (enc:=spE) (cv:=intC) (c.fl,c.tt) 2 J J J (KeyIs.agg (us:=[.int .i64 c.fl, .int .i64 c.tt]) J) J uMSt Xl (Qj (Qn ?_ Q7));refine Xu (i:=8) (enc:=spE) (cv:=adrF) (c.fl,c.tt) c.fr J J J (KeyIs.agg (us:=[.int .i64 c.fl, .int .i64 c.tt]) J) J uMAd Xl (Qj (Xv (hK _ _ ?_)));refine Ql (Ql ?_);exact Xk hM _ es (Qd 3 (Qd 2 (by exact Qu J ⟨rfl,rfl,rfl,rfl,rfl,trivial⟩)))
              refine Qn ?_ Q7
              refine Xu (i:=9) (enc:=spE) (cv:=intC) (c.fl,c.tt) 2 J J J (KeyIs.agg (us:=[.int .i64 c.fl, .int .i64 c.tt]) J) J uMSt Xl (Qj (Xp (Qe (n:=2) J J J J J Yi J (Qj (Qn ?_ Q7)))));refine Xu (i:=8) (enc:=spE) (cv:=adrF) (c.fl,c.tt) c.fr J J J (KeyIs.agg (us:=[.int .i64 c.fl, .int .i64 c.tt]) J) J uMAd Xl (Qj (Xv (hK _ _ ?_)));refine Ql (Ql ?_);exact Xk hM _ es (Qd 3 (Qd 2 (by exact Qu J ⟨rfl,rfl,rfl,rfl,rfl,trivial⟩)))
            refine Qn ?_ Q7
            refine Xu (i:=9) (enc:=spE) (cv:=intC) (c.fl,c.tt) 2 J J J (KeyIs.agg (us:=[.int .i64 c.fl, .int .i64 c.tt]) J) J uMSt Xl (Qj (Xp (Qe (n:=2) J J J J J Yi J (Qj (Xp (QX J J J J J lAddr J (Qj (Qn ?_ Q7))))))));refine Xu (i:=8) (enc:=spE) (cv:=adrF) (c.fl,c.tt) c.fr J J J (KeyIs.agg (us:=[.int .i64 c.fl, .int .i64 c.tt]) J) J uMAd Xl (Qj (Xv (hK _ _ ?_)));refine Ql (Ql ?_);exact Xk hM _ es (Qd 3 (Qd 2 (by exact Qu J ⟨rfl,rfl,rfl,rfl,rfl,trivial⟩)))
          refine XK ?_ ?_
          · refine Qe (n:=2) J J J J J Yi J (Qj (XK ?_ ?_))
            · refine QX J J J J J lMAd J (Qj (XK ?_ ?_))
              · refine QX J J J J J lAddr J (Qj (Qn ?_ Q7));refine Xu (i:=9) (enc:=spE) (cv:=intC) (c.fl,c.tt) 2 J J J (KeyIs.agg (us:=[.int .i64 c.fl, .int .i64 c.tt]) J) J uMSt Xl (Qj (Qn ?_ Q7));refine Xu (i:=8) (enc:=spE) (cv:=adrF) (c.fl,c.tt) c.fr J J J (KeyIs.agg (us:=[.int .i64 c.fl, .int .i64 c.tt]) J) J uMAd Xl (Qj (Xv (hK _ _ ?_)));refine Ql (Ql ?_);exact Xk hM _ es (Qd 3 (Qd 2 (by exact Qu J ⟨rfl,rfl,rfl,rfl,rfl,trivial⟩)))
              refine Qn ?_ Q7
              refine Xu (i:=9) (enc:=spE) (cv:=intC) (c.fl,c.tt) 2 J J J (KeyIs.agg (us:=[.int .i64 c.fl, .int .i64 c.tt]) J) J uMSt Xl (Qj (Xp (QX J J J J J lAddr J (Qj (Qn ?_ Q7)))));refine Xu (i:=8) (enc:=spE) (cv:=adrF) (c.fl,c.tt) c.fr J J J (KeyIs.agg (us:=[.int .i64 c.fl, .int .i64 c.tt]) J) J uMAd Xl (Qj (Xv (hK _ _ ?_)));refine Ql (Ql ?_);exact Xk hM _ es (Qd 3 (Qd 2 (by exact Qu J ⟨rfl,rfl,rfl,rfl,rfl,trivial⟩)))
            refine XK ?_ ?_
            · refine QX J J J J J lAddr J (Qj (XK ?_ ?_))
              · refine QX J J J J J lMAd J (Qj (Qn ?_ Q7));refine Xu (i:=9) (enc:=spE) (cv:=intC) (c.fl,c.tt) 2 J J J (KeyIs.agg (us:=[.int .i64 c.fl, .int .i64 c.tt]) J) J uMSt Xl (Qj (Qn ?_ Q7));refine Xu (i:=8) (enc:=spE) (cv:=adrF) (c.fl,c.tt) c.fr J J J (KeyIs.agg (us:=[.int .i64 c.fl, .int .i64 c.tt]) J) J uMAd Xl (Qj (Xv (hK _ _ ?_)));refine Ql (Ql ?_);exact Xk hM _ es (Qd 3 (Qd 2 (by exact Qu J ⟨rfl,rfl,rfl,rfl,rfl,trivial⟩)))
              refine Qn ?_ Q7
              refine Xu (i:=9) (enc:=spE) (cv:=intC) (c.fl,c.tt) 2 J J J (KeyIs.agg (us:=[.int .i64 c.fl, .int .i64 c.tt]) J) J uMSt Xl (Qj (Xp (QX J J J J J lMAd J (Qj (Qn ?_ Q7)))));refine Xu (i:=8) (enc:=spE) (cv:=adrF) (c.fl,c.tt) c.fr J J J (KeyIs.agg (us:=[.int .i64 c.fl, .int .i64 c.tt]) J) J uMAd Xl (Qj (Xv (hK _ _ ?_)));refine Ql (Ql ?_);exact Xk hM _ es (Qd 3 (Qd 2 (by exact Qu J ⟨rfl,rfl,rfl,rfl,rfl,trivial⟩)))
            refine Qn ?_ Q7
            refine Xu (i:=9) (enc:=spE) (cv:=intC) (c.fl,c.tt) 2 J J J (KeyIs.agg (us:=[.int .i64 c.fl, .int .i64 c.tt]) J) J uMSt Xl (Qj (Xp (QX J J J J J lMAd J (Qj (Xp (QX J J J J J lAddr J (Qj (Qn ?_ Q7))))))));refine Xu (i:=8) (enc:=spE) (cv:=adrF) (c.fl,c.tt) c.fr J J J (KeyIs.agg (us:=[.int .i64 c.fl, .int .i64 c.tt]) J) J uMAd Xl (Qj (Xv (hK _ _ ?_)));refine Ql (Ql ?_);exact Xk hM _ es (Qd 3 (Qd 2 (by exact Qu J ⟨rfl,rfl,rfl,rfl,rfl,trivial⟩)))
          refine XK ?_ ?_
          · refine QX J J J J J lAddr J (Qj (XK ?_ ?_))
            · refine QX J J J J J lMAd J (Qj (XK ?_ ?_))
              · refine Qe (n:=2) J J J J J Yi J (Qj (Qn ?_ Q7));refine Xu (i:=9) (enc:=spE) (cv:=intC) (c.fl,c.tt) 2 J J J (KeyIs.agg (us:=[.int .i64 c.fl, .int .i64 c.tt]) J) J uMSt Xl (Qj (Qn ?_ Q7));refine Xu (i:=8) (enc:=spE) (cv:=adrF) (c.fl,c.tt) c.fr J J J (KeyIs.agg (us:=[.int .i64 c.fl, .int .i64 c.tt]) J) J uMAd Xl (Qj (Xv (hK _ _ ?_)));refine Ql (Ql ?_);exact Xk hM _ es (Qd 3 (Qd 2 (by exact Qu J ⟨rfl,rfl,rfl,rfl,rfl,trivial⟩)))
              refine Qn ?_ Q7
              refine Xu (i:=9) (enc:=spE) (cv:=intC) (c.fl,c.tt) 2 J J J (KeyIs.agg (us:=[.int .i64 c.fl, .int .i64 c.tt]) J) J uMSt Xl (Qj (Xp (Qe (n:=2) J J J J J Yi J (Qj (Qn ?_ Q7)))));refine Xu (i:=8) (enc:=spE) (cv:=adrF) (c.fl,c.tt) c.fr J J J (KeyIs.agg (us:=[.int .i64 c.fl, .int .i64 c.tt]) J) J uMAd Xl (Qj (Xv (hK _ _ ?_)));refine Ql (Ql ?_);exact Xk hM _ es (Qd 3 (Qd 2 (by exact Qu J ⟨rfl,rfl,rfl,rfl,rfl,trivial⟩)))
            refine XK ?_ ?_
            · refine Qe (n:=2) J J J J J Yi J (Qj (XK ?_ ?_))
              · refine QX J J J J J lMAd J (Qj (Qn ?_ Q7));refine Xu (i:=9) (enc:=spE) (cv:=intC) (c.fl,c.tt) 2 J J J (KeyIs.agg (us:=[.int .i64 c.fl, .int .i64 c.tt]) J) J uMSt Xl (Qj (Qn ?_ Q7));refine Xu (i:=8) (enc:=spE) (cv:=adrF) (c.fl,c.tt) c.fr J J J (KeyIs.agg (us:=[.int .i64 c.fl, .int .i64 c.tt]) J) J uMAd Xl (Qj (Xv (hK _ _ ?_)));refine Ql (Ql ?_);exact Xk hM _ es (Qd 3 (Qd 2 (by exact Qu J ⟨rfl,rfl,rfl,rfl,rfl,trivial⟩)))
              refine Qn ?_ Q7
              refine Xu (i:=9) (enc:=spE) (cv:=intC) (c.fl,c.tt) 2 J J J (KeyIs.agg (us:=[.int .i64 c.fl, .int .i64 c.tt]) J) J uMSt Xl (Qj (Xp (QX J J J J J lMAd J (Qj (Qn ?_ Q7)))));refine Xu (i:=8) (enc:=spE) (cv:=adrF) (c.fl,c.tt) c.fr J J J (KeyIs.agg (us:=[.int .i64 c.fl, .int .i64 c.tt]) J) J uMAd Xl (Qj (Xv (hK _ _ ?_)));refine Ql (Ql ?_);exact Xk hM _ es (Qd 3 (Qd 2 (by exact Qu J ⟨rfl,rfl,rfl,rfl,rfl,trivial⟩)))
            refine Qn ?_ Q7
            refine Xu (i:=9) (enc:=spE) (cv:=intC) (c.fl,c.tt) 2 J J J (KeyIs.agg (us:=[.int .i64 c.fl, .int .i64 c.tt]) J) J uMSt Xl (Qj (Xp (QX J J J J J lMAd J (Qj (Xp (Qe (n:=2) J J J J J Yi J (Qj (Qn ?_ Q7))))))));refine Xu (i:=8) (enc:=spE) (cv:=adrF) (c.fl,c.tt) c.fr J J J (KeyIs.agg (us:=[.int .i64 c.fl, .int .i64 c.tt]) J) J uMAd Xl (Qj (Xv (hK _ _ ?_)));refine Ql (Ql ?_);exact Xk hM _ es (Qd 3 (Qd 2 (by exact Qu J ⟨rfl,rfl,rfl,rfl,rfl,trivial⟩)))
          refine Qn ?_ Q7
          refine Xu (i:=9) (enc:=spE) (cv:=intC) (c.fl,c.tt) 2 J J J (KeyIs.agg (us:=[.int .i64 c.fl, .int .i64 c.tt]) J) J uMSt Xl (Qj (Xp (QX J J J J J lMAd J (Qj (Xp (Qe (n:=2) J J J J J Yi J (Qj (Xp (QX J J J J J lAddr J (Qj (Qn ?_ Q7)))))))))));refine Xu (i:=8) (enc:=spE) (cv:=adrF) (c.fl,c.tt) c.fr J J J (KeyIs.agg (us:=[.int .i64 c.fl, .int .i64 c.tt]) J) J uMAd Xl (Qj (Xv (hK _ _ ?_)));refine Ql (Ql ?_);exact Xk hM _ es (Qd 3 (Qd 2 (by exact Qu J ⟨rfl,rfl,rfl,rfl,rfl,trivial⟩)))
        · rw [if_neg h2] at es;refine Qy (XX mixed 13 (.p 0 (.p 1 (.p 2 (.p 3 (.p 7 (.p 8 (.f 4 (.f 5 (.f 6 (.f 9 (.p 10 (.p 11 (.p 12 .done))))))))))))) (by kernel_rfl) (fun K hK=> ?_));refine Qq J J J (Qk ieql J J J J (Qq J J J (Qi 67 (p:=kn=2) J (fun h3=> ?_) (fun h3=> ?_))))
          · refine QJ J J J fV1 J (QJ J J J fS11 J (Z2 J J fN0 J (QX J J J J J lMAd J (Qe (n:=2) J J J J J Yi J (Ops.lookM (i:=8) (cv:=adrF) (enc:=spE) 0 (c.fl,c.tt) J J J J (KeyIs.agg (us:=[.int .i64 c.fl, .int .i64 c.tt]) J) uMAd z0Adr (fun _ _=>rfl) Xl J ?_)))));generalize (look1 m.1 (c.fl,c.tt)).getD 0=a at es ⊢;refine QX J J J J J lAddr J (Qk ineq J J J J (Q5 J J J J (Qv J J J (Qj (hK _ _ (Qz ?_))))));clear hK K;refine Q2 J (fun h4=> ?_) (fun h4=> ?_)
            · rw [if_pos ⟨h3,fun h=>h4 (by rw [h])⟩] at es;refine Yq mixed [6,7] (.p 0 (.p 3 (.f 1 (.f 2 (.m 4 (.m 5 (.a 6 (.a 7 .done .non) .non) (.a 6 (.f 5 (.a 7 .done .non)) .non)) (.m 5 (.m 4 (.a 6 (.a 7 .done .non) .non) (.a 6 (.f 4 (.a 7 .done .non)) .non)) (.a 6 (.f 4 (.f 5 (.a 7 .done .non))) .non))))))) (by kernel_rfl) (fun K hK=> ?_);refine Qs (QJ J J J fV2 J (Qj (Qs (QJ J J J fV1 J (Qj (Xp (QX J J J J J lMSt J (Qj (Xp (Qe (n:=2) J J J J J Yi J (Qj (XK ?_ ?_))))))))))))
              · refine QX J J J J J lMAd J (Qj (XK ?_ ?_))
                · refine Qe (n:=2) J J J J J Yi J (Qj (Qn ?_ Q7));refine Xu (i:=9) (enc:=spE) (cv:=intC) (c.fl,c.tt) 3 J J J (KeyIs.agg (us:=[.int .i64 c.fl, .int .i64 c.tt]) J) J uMSt Xl (Qj (Qn ?_ Q7));refine Xu (i:=8) (enc:=spE) (cv:=adrF) (c.fl,c.tt) 0 J J J (KeyIs.agg (us:=[.int .i64 c.fl, .int .i64 c.tt]) J) J uMAd Xl (Qj (Xv (hK _ _ ?_)));refine Ql (Ql ?_);exact Xk hM _ es (Qd 3 (Qd 2 (by exact Qu J ⟨rfl,rfl,rfl,rfl,rfl,trivial⟩)))
                refine Qn ?_ Q7
                refine Xu (i:=9) (enc:=spE) (cv:=intC) (c.fl,c.tt) 3 J J J (KeyIs.agg (us:=[.int .i64 c.fl, .int .i64 c.tt]) J) J uMSt Xl (Qj (Xp (Qe (n:=2) J J J J J Yi J (Qj (Qn ?_ Q7)))));refine Xu (i:=8) (enc:=spE) (cv:=adrF) (c.fl,c.tt) 0 J J J (KeyIs.agg (us:=[.int .i64 c.fl, .int .i64 c.tt]) J) J uMAd Xl (Qj (Xv (hK _ _ ?_)));refine Ql (Ql ?_);exact Xk hM _ es (Qd 3 (Qd 2 (by exact Qu J ⟨rfl,rfl,rfl,rfl,rfl,trivial⟩)))
              refine XK ?_ ?_
              · refine Qe (n:=2) J J J J J Yi J (Qj (XK ?_ ?_))
                · refine QX J J J J J lMAd J (Qj (Qn ?_ Q7));refine Xu (i:=9) (enc:=spE) (cv:=intC) (c.fl,c.tt) 3 J J J (KeyIs.agg (us:=[.int .i64 c.fl, .int .i64 c.tt]) J) J uMSt Xl (Qj (Qn ?_ Q7));refine Xu (i:=8) (enc:=spE) (cv:=adrF) (c.fl,c.tt) 0 J J J (KeyIs.agg (us:=[.int .i64 c.fl, .int .i64 c.tt]) J) J uMAd Xl (Qj (Xv (hK _ _ ?_)));refine Ql (Ql ?_);exact Xk hM _ es (Qd 3 (Qd 2 (by exact Qu J ⟨rfl,rfl,rfl,rfl,rfl,trivial⟩)))
                refine Qn ?_ Q7
                refine Xu (i:=9) (enc:=spE) (cv:=intC) (c.fl,c.tt) 3 J J J (KeyIs.agg (us:=[.int .i64 c.fl, .int .i64 c.tt]) J) J uMSt Xl (Qj (Xp (QX J J J J J lMAd J (Qj (Qn ?_ Q7)))));refine Xu (i:=8) (enc:=spE) (cv:=adrF) (c.fl,c.tt) 0 J J J (KeyIs.agg (us:=[.int .i64 c.fl, .int .i64 c.tt]) J) J uMAd Xl (Qj (Xv (hK _ _ ?_)));refine Ql (Ql ?_);exact Xk hM _ es (Qd 3 (Qd 2 (by exact Qu J ⟨rfl,rfl,rfl,rfl,rfl,trivial⟩)))
              refine Qn ?_ Q7
              refine Xu (i:=9) (enc:=spE) (cv:=intC) (c.fl,c.tt) 3 J J J (KeyIs.agg (us:=[.int .i64 c.fl, .int .i64 c.tt]) J) J uMSt Xl (Qj (Xp (QX J J J J J lMAd J (Qj (Xp (Qe (n:=2) J J J J J Yi J (Qj (Qn ?_ Q7))))))));refine Xu (i:=8) (enc:=spE) (cv:=adrF) (c.fl,c.tt) 0 J J J (KeyIs.agg (us:=[.int .i64 c.fl, .int .i64 c.tt]) J) J uMAd Xl (Qj (Xv (hK _ _ ?_)));refine Ql (Ql ?_);exact Xk hM _ es (Qd 3 (Qd 2 (by exact Qu J ⟨rfl,rfl,rfl,rfl,rfl,trivial⟩)))
            · rw [if_neg (fun h=>h.2 (Fin.ext (by omega)))] at es;refine QK (Ql (Ql ?_));exact Xk hM _ es (Qd 3 (Qd 2 (by exact Qu J ⟨rfl,rfl,rfl,rfl,rfl,trivial⟩)))
          · rw [if_neg (fun h=>h3 h.1)] at es;refine Qw J J J (Qw J J J (Qw J J J (Qw J J J (Qw J J J (Qw J J J (Qw J J J (Qw J J J (Q8 J J J J (Qv J J J (Qj (hK _ _ (Qz (Xw J (QK (Ql (Ql ?_))))))))))))))));clear hK K;exact Xk hM _ es (Qd 3 (Qd 2 (by exact Qu J ⟨rfl,rfl,rfl,rfl,rfl,trivial⟩)))
  · have hi' :i=l.length:=by omega
    have el:(l.take i).foldl (lookS e) ([],[])=l.foldl (lookS e) ([],[]):=by rw [hi',List.take_length]
    rw [el]
    refine St.frzM 8 1 1 J J J (fun _ h=>h.elim) ?_
    refine St.frzM 9 1 2 J J J (fun _ h=>h.elim) ?_
    refine Qm (Qz (Qy (Qx fun K hK=> ?_)));refine Qe (n:=3) J J J J J lView J (Qb 3 J J J J J szView J J (Qj (hK _ _ (Qz (Q4 ?_)))));clear hK K;refine Fin.end [_] rfl (Qh (n:=3) J J lView J QZ) J J
end Go.Proofs.YtojkdfilabmafaaGreat
namespace Go.Proofs.YtojkdfilabmafaaGreat
open Go.Own Go.Limbs
abbrev ESp := Tk × Int × Int
def plS (r : Rs) : ESp := (trOf r, r.fl, r.tt)
def plB (r : Rs) : Bool := r.an && usR r
abbrev SeenM := List (ESp × Fin 4294967296)
def clashG : SeenM → List Rs → Nat
  | _, [] => 0
  | m, r :: l =>
    if plB r = false then clashG m l + 1
    else if (look1 m (plS r)).isSome = true ∧ (look1 m (plS r)).getD 0 ≠ r.fr then 0
    else clashG (ins m (plS r) r.fr) l + 1
def conB (a b : Rs) : Bool := (plB a && plB b) && (decide (plS a = plS b) && decide (a.fr ≠ b.fr))
def witG (o : List Rs) : Option Nat :=
  let k := clashG [] o
  if k < o.length then (o.take k).findIdx? (fun a => conB a (o.getD k rs0)) else none
theorem clashG_le:∀(l:List Rs) (m:SeenM),clashG m l≤l.length
  | [],_=>Nat.le_refl _
  |r::l,m=>by
    simp only [clashG,List.length_cons]
    split
    · have:=clashG_le l m;omega
    · split
      · omega
      · have:=clashG_le l (ins m (plS r) r.fr);omega
theorem usR_tt{r:Rs}(h:usR r=true):1≤r.tt∧r.tt≤255:=by
  simp only [usR,okR,Bool.and_eq_true,decide_eq_true_eq] at h;have h1:=h.2.1;unfold ckE at h1;split at h1
  · cases h1
  · rename_i h2;unfold P1 at h2;omega
theorem hasS_tt{l:List Rs}{fl tt:Int}(h:hasS (lookG l).2 fl tt=true):1≤tt∧tt≤255:=by
  unfold hasS at h
  cases e:look1 (lookG l).2 (fl,tt) with
  |none=>rw [e] at h;simp at h
  |some v=>
    obtain ⟨_,r,_,hu,hs⟩:=lookG_keys l _ _ e
    injection hs with h1 h2
    rw [h2];exact usR_tt hu
theorem pathG_len(m:AdM × StM)(fl:Int):∀(k:Nat) (tt:Int),(pathG m fl k tt).length≤k
  |0,_=>Nat.le_refl _
  |k+1,tt=>by
    unfold pathG
    split
    · have:=pathG_len m fl k (tt+1);simp only [List.length_cons];omega
    · exact Nat.zero_le _
attribute [local irreducible] Go.Own.Fin Ok OkB OkF OkL OkN OkT Ops St
theorem goPath:InGo Tryz.prog 87:=InGo.of Tryz.func87 rfl (by decide)
set_option maxHeartbeats 4000000 in
theorem Path_ok(l:List Rs)(fl:Int)(hl:l.length≤100000):OkF Tryz.prog 87 [rssC l,intC fl] 35 1 (adrs (pathF l fl)):=by
  have hL:=Look_ok l hl
  have hb:∀tt,hasS (lookG l).2 fl tt=true→1≤tt∧tt≤255:=fun tt h=>hasS_tt h
  have e0:pathF l fl=pathG (lookG l) fl 256 1:=rfl;rw [e0];clear e0;generalize endF l=e at hL;generalize lookG l=m at hL hb ⊢
  refine OkF.enter Tryz.func87 J _ Tryz.ntmps87 J ?_
  intro S w;refine Qy (Qx fun K hK=> ?_);refine Qv J J J (Qj (hK _ _ (Qz (Qy ?_))));clear hK K;refine Qx (fun K hK=> ?_);refine Qq J J J (QV goLook hL J J J J (Qg 0 J J zvView J J J (Qb 3 J J J J J szView J J (Qj (hK _ _ (Qz (Qy ?_)))))));clear hK K;refine Qx (fun K hK=> ?_);refine Qv J J J (Qj (hK _ _ (Qz (Qy (Qy ?_)))));clear hK K;refine Qx (fun K hK=> ?_);refine Qv J J J (Qj (hK _ _ (Qz (Q1 ?_))));clear hK K
  refine Yj 6 1 35 1 J J J ?_
  refine Qr (α:=List Ad) (fun pre=>pre.length≤255∧pathG m fl 256 1=pre++pathG m fl (256 - pre.length) (pre.length+1))
    (fun pre=>[(1, .ct (intC fl)),(5, .own 0),(6, .own 1),(7, .ct (intC (pre.length+1)))])
    (fun pre=>[(1, .row 35 1 (adrs pre)),(0, .box 224 [intC e, .fr (mapT (adM m.1)), .fr (mapT (stM m.2))])]) (fun pre=>256 - pre.length) [] ⟨Nat.zero_le _,rfl⟩ (by exact Qu J ⟨rfl,rfl,rfl,rfl,trivial⟩) ?_
  intro pre ⟨hp,hq⟩
  try dsimp only
  have hH:=Has_ok e fl (pre.length+1) m;have hb1:=hb (pre.length+1)
  have hun:∀k,pathG m fl (k+1) (pre.length+1)=if hasS m.2 fl (pre.length+1) then (look1 m.1 (fl,(pre.length:Int)+1)).getD 0::pathG m fl k (pre.length+1+1) else []:=fun _=>rfl
  generalize hasS m.2 fl (pre.length+1)=hs at hH hb1 hun;refine Qy (Qy (Qx fun K hK=> ?_));refine Qe (n:=3) J J J J J lView J (Qq J J J (Qq J J J (QV goHas hH J J J J (Qj (hK _ _ (Qz ?_))))));clear hK K;refine X6 J (fun h=> ?_) (fun h=> ?_)
  · have hl2:=hb1 h;obtain ⟨k,hk⟩:∃k,256 - pre.length=k+1:=⟨255 - pre.length,by omega⟩;rw [hk,hun,if_pos h] at hq;refine QK (Qz (Qy (Q1 (Qx fun K hK=> ?_))));refine Qq J J J (QJ J J J fV1 J (QX J J J J J lMAd J (Qq J J J (Qq J J J (Qo J bSpot J (.one J J J J (.one J J J J .nil)) J (Ops.lookF (cv:=adrF) (enc:=spE) 0 (fl,(pre.length:Int)+1) J J J (KeyIs.agg (us:=[.int .i64 fl, .int .i64 ((pre.length:Int)+1)]) J) uMAd z0Adr (fun _ _=>rfl) Xl J ?_))))));generalize (look1 m.1 (fl,(pre.length:Int)+1)).getD 0=a at hq ⊢;skip;refine Xh J J sAdrs J J J (Xq pre.length (adrs (pre++ [a])) J J J J sAdrs (by simp [adrs]) J (by omega) (by omega) (by simp [adrs]) J ?_);refine Qv J J J (Qj (hK _ _ (Qz ?_)));clear hK K;refine Qx (fun K hK=> ?_);refine Qq J J J (Qk (iadd (by omega) (by omega)) J J J J ?_);refine Qv J J J (Qj (hK _ _ (Q6 ?_)));clear hK K;refine Q9 (pre++ [a]) (by rw [List.length_append];simp;omega) ⟨by rw [List.length_append];simp;omega,?_⟩ (by exact Qu J ⟨rfl,rfl,rfl,by simp only [List.length_append,List.length_cons,List.length_nil,Int.natCast_add];rfl,trivial⟩);rw [hq,List.length_append,List.append_assoc]
    have:256 - (pre.length+ [a].length)=k:=by simp;omega
    rw [this];simp
  · obtain ⟨k,hk⟩:∃k,256 - pre.length=k+1:=⟨255 - pre.length,by omega⟩;rw [hk,hun,if_neg (by rw [h];decide),List.append_nil] at hq;refine Qm (Qz (Qy (Qx fun K hK=> ?_)));refine Qq J J J (Qv J J J (Qj (hK _ _ (Qz (Q4 ?_)))));clear hK K;refine Fin.retF J J (by rw [hq];rfl) J
abbrev esI (s : ESp) : List Int := [s.1.va, (s.1.ds.val : Int), s.1.pr, s.2.1, s.2.2]
abbrev esK : List IntKind := [.i64, .u32, .i64] ++ [.i64, .i64]
abbrev esE (s : ESp) : Value := Go.Own.encI esK (esI s)
abbrev esCs (s : ESp) : List CT := [intC s.1.va, adrF s.1.ds, intC s.1.pr, intC s.2.1, intC s.2.2]
abbrev esC (s : ESp) : CT := .fr (aggT (esCs s))
abbrev esV (s : ESp) : List Value := [.int .i64 s.1.va, .int .u32 (s.1.ds.val : Int), .int .i64 s.1.pr, .int .i64 s.2.1, .int .i64 s.2.2]
theorem eqES:EqF Tryz.prog 282 123 [.i64, .u32, .i64] [.i64, .i64]:=⟨by kernel_rfl,by kernel_rfl,by kernel_rfl,by kernel_rfl,by kernel_rfl,by kernel_rfl,by kernel_rfl,by kernel_rfl⟩
theorem esI_inj(a b:ESp)(h:esI a=esI b):a=b:=by
  obtain ⟨⟨a1,a2,a3⟩,a4,a5⟩:=a;obtain ⟨⟨b1,b2,b3⟩,b4,b5⟩:=b;simp only [esI,List.cons.injEq,and_true,Int.ofNat_inj,Fin.val_inj] at h;obtain ⟨h1,h2,h3,h4,h5⟩:=h;rw [h1,h2,h3,h4,h5]
theorem keyES:KeyT Tryz.prog 282 esE:=eqES.flat.key esI (fun _=>rfl) esI_inj
theorem gES:Tryz.prog.eqGuardType Tryz.prog.depth 282=false:=by kernel_rfl
theorem lES:LdN Tryz.prog 282 5:=LdN.of _ Tryz.underlying282 rfl (by kernel_rfl)
theorem szES:(Tryz.prog.info? 282).map (·.size)=some 5:=by kernel_rfl
theorem zvES:(Tryz.prog.info? 282).map (·.zero)=some (some (.agg #[.int .i64 0, .int .u32 0, .int .i64 0, .int .i64 0, .int .i64 0])):=by kernel_rfl
theorem bES:bInfo Tryz.prog 282=some (.agg #[.int .i64 0, .int .u32 0, .int .i64 0, .int .i64 0, .int .i64 0],[(0,some 3),(3,some 1),(4,some 1)]):=by kernel_rfl
theorem uMSeen:Tryz.prog.underlying 280=some (.map 282 35):=Tryz.underlying280
theorem goPlace:InGo Tryz.prog 233:=InGo.of Tryz.func233 rfl (by decide)
set_option maxHeartbeats 4000000 in
theorem Place_ok(r:Rs):Ok Tryz.prog 233 [rsC r] (.fr (tupT [esC (plS r),boolC (plB r)])):=by
  have hT:=TraceOf_ok r;have hU:=Usable_ok r;have e0:plB r=(r.an&&usR r):=rfl;generalize usR r=ub at hU e0
  refine Ok.enter Tryz.func233 J _ Tryz.ntmps233 J ?_
  intro S w;refine Qy (Qx fun K hK=> ?_);refine XQ 0 J J J J J J J (Qg 1 J J zvES J J J (Qv J J J (Qj (hK _ _ (Qz (Qy ?_))))));clear hK K;refine XX mixed 13 (.p 2 (.p 4 (.p 7 (.f 0 (.f 3 (.f 5 (.fork 1 (.p 6 (.m 8 (.p 9 (.m 10 (.m 11 (.p 12 (.a 13 (.p 14 .done)))))))) 8 (.m 1 (.p 6 (.p 9 (.m 10 (.m 11 (.p 12 (.a 13 (.p 14 .done))))))))))))))) (by kernel_rfl) (fun K hK=> ?_);refine QJ J J J fS6 J (QJ J J J fS7 J (QJ J J J fS8 J (Qe (n:=17) J J J J J lRes J (QX J J J J J lInt J (QX J J J J J lInt J (Ops.fork ?_ ?_))))))
  · refine QV goTraceOf hT J J J J (Qo J bES J (.agg J J J J (.one J J J J (.one J J J J .nil))) J (QX J J J J J lBool1 J (Qq J J J (Xc 13 (b:=r.an) J (fun h=> ?_) (fun h=> ?_)))))
    · refine Qe (n:=17) J J J J J lRes J (QV goUsable hU J J J J (Q5 J J J J (Qb 5 J J J J J szES J J (Qv J J J (Qj (hK _ _ (Qz (Q4 ?_))))))));clear hK K;refine Q3 [_,_] rfl (Qh (n:=5) J J lES J (QQ J QZ)) (by rw [e0,h,Bool.true_and];rfl) J
    · refine Qw J J J (Qw J J J (Q8 J J J J (Qb 5 J J J J J szES J J (Qv J J J (Qj (hK _ _ (Qz (Q4 ?_))))))));clear hK K;refine Q3 [_,_] rfl (Qh (n:=5) J J lES J (QQ J QZ)) (by rw [e0,h,Bool.false_and];rfl) J
  · refine QX J J J J J lBool1 J (QV goTraceOf hT J J J J (Qo J bES J (.agg J J J J (.one J J J J (.one J J J J .nil))) J (Qq J J J (Xc 13 (b:=r.an) J (fun h=> ?_) (fun h=> ?_)))))
    · refine Qe (n:=17) J J J J J lRes J (QV goUsable hU J J J J (Q5 J J J J (Qb 5 J J J J J szES J J (Qv J J J (Qj (hK _ _ (Qz (Q4 ?_))))))));clear hK K;refine Q3 [_,_] rfl (Qh (n:=5) J J lES J (QQ J QZ)) (by rw [e0,h,Bool.true_and];rfl) J
    · refine Qw J J J (Qw J J J (Q8 J J J J (Qb 5 J J J J J szES J J (Qv J J J (Qj (hK _ _ (Qz (Q4 ?_))))))));clear hK K;refine Q3 [_,_] rfl (Qh (n:=5) J J lES J (QQ J QZ)) (by rw [e0,h,Bool.false_and];rfl) J
theorem goContradict:InGo Tryz.prog 168:=InGo.of Tryz.func168 rfl (by decide)
set_option maxHeartbeats 4000000 in
theorem Contradict_ok(a b:Rs):Ok Tryz.prog 168 [rsC a,rsC b] (boolC (conB a b)):=by
  have hA:=Place_ok a;have hB:=Place_ok b;have e0:conB a b=((plB a&&plB b)&&(decide (plS a=plS b)&&decide (a.fr≠b.fr))):=rfl;have e1:decide (esI (plS a)=esI (plS b))=decide (plS a=plS b):=decide_eq_decide.2 ⟨esI_inj _ _,fun h=>by rw [h]⟩;generalize plS a=sa at hA e0 e1;generalize plS b=sb at hB e0 e1;generalize plB a=pa at hA e0;generalize plB b=pb at hB e0
  refine Ok.enter Tryz.func168 J _ Tryz.ntmps168 J ?_
  intro S w;refine Qy (Qx fun K hK=> ?_);refine XQ 0 J J J J J J J (XQ 1 J J J J J J J (Qv J J J (Qj (hK _ _ (Qz (Qy ?_))))));clear hK K;refine Qx (fun K hK=> ?_);refine Qe (n:=17) J J J J J lRes J (QV goPlace hA J J J J (Qq J J J (Q0 J J J J (Q0 J J J J (Qg 2 J J zvES J J J (Qb 5 J J J J J szES J J (Qv J J J (Qj (hK _ _ (Qz (Qy ?_)))))))))));clear hK K;refine Qx (fun K hK=> ?_);refine Qe (n:=17) J J J J J lRes J (QV goPlace hB J J J J (Qq J J J (Q0 J J J J (Q0 J J J J (Qg 3 J J zvES J J J (Qb 5 J J J J J szES J J (Qv J J J (Qj (hK _ _ (Qz (Qy ?_)))))))))));clear hK K;refine Qx (fun K hK=> ?_);refine Qq J J J (Qq J J J (Xc 20 (b:=pa) J (fun h=> ?_) (fun h=> ?_)))
  · refine Qq J J J (Q5 J J J J (Qq J J J (Xc 23 (b:=pb) J (fun h2=> ?_) (fun h2=> ?_))))
    · skip;refine Qe (n:=5) J J J J J lES J (Qe (n:=5) J J J J J lES J (Ops.eqK (ks:=esK) (esI sa) (esI sb) J J J J J eqES.flat gES J ?_));rw [e1];refine Q5 J J J J (Qq J J J (Qi 28 (p:=sa=sb) J (fun h3=> ?_) (fun h3=> ?_)))
      · refine QJ J J J fS11 J (Z2 J J fN0 J (QX J J J J J lAddr J (QJ J J J fS11 J (Z2 J J fN0 J (QX J J J J J lAddr J (Qk ineq J J J J (Q5 J J J J (Qv J J J (Qj (hK _ _ (Qz (Q4 ?_))))))))))));clear hK K;refine Q3 [_] rfl (QQ J QZ) (by rw [e0,h,h2,decide_eq_true h3];simp only [Bool.true_and];rw [show (decide (a.fr≠b.fr))=decide (¬((a.fr.val:Int)=b.fr.val)) from decide_eq_decide.2 ⟨fun h h' =>h (Fin.ext (by omega)),fun h h' =>h (by rw [h'])⟩];rfl) J
      · refine Qw J J J (Qw J J J (Qw J J J (Qw J J J (Qw J J J (Qw J J J (Qw J J J (Q8 J J J J (Qv J J J (Qj (hK _ _ (Qz (Q4 ?_))))))))))));clear hK K;refine Q3 [_] rfl (QQ J QZ) (by rw [e0,h,h2,decide_eq_false h3];rfl) J
    · refine Qw J J J (Qw J J J (Qw J J J (Q8 J J J J (Qq J J J (Qw J J J (Qw J J J (Qw J J J (Qw J J J (Qw J J J (Qw J J J (Qw J J J (Q8 J J J J (Qv J J J (Qj (hK _ _ (Qz (Q4 ?_)))))))))))))))));clear hK K;refine Q3 [_] rfl (QQ J QZ) (by rw [e0,h,h2];rfl) J
  · refine Qw J J J (Q8 J J J J (Qq J J J (Qw J J J (Qw J J J (Qw J J J (Q8 J J J J (Qq J J J (Qw J J J (Qw J J J (Qw J J J (Qw J J J (Qw J J J (Qw J J J (Qw J J J (Q8 J J J J (Qv J J J (Qj (hK _ _ (Qz (Q4 ?_))))))))))))))))))));clear hK K;refine Q3 [_] rfl (QQ J QZ) (by rw [e0,h];rfl) J
attribute [local irreducible] OkM
theorem knOk_ins{l:List Rs}{m:KnM}(h:knOk l m)(s:Stm):knOk l (ins m s (pathF (ofF l s.1) s.2)):=fun x p hx=>by
  rw [look1_ins] at hx
  split at hx
  · rename_i e;subst e;injection hx with hx;exact hx.symm
  · exact h x p hx
theorem pathF_len(l:List Rs)(fl:Int):(pathF l fl).length≤256:=pathG_len _ _ _ _
abbrev Me := Rs × List Wr
def me0 : Me := (rs0, [])
abbrev meCs (x : Me) : List CT := rsCs x.1 ++ [wrsC x.2]
theorem me_len(x:Me):(meCs x).length=18:=rfl
abbrev mesC (l : List Me) : CT := .fr (sliceT 18 (l.map meCs))
def mes (l : List Me) : List CT := (l.map meCs).flatten
theorem mes_frozen(e:Nat)(l:List Me):(Ent.row e 18 (mes l)).frozen (sliceT 18 (l.map meCs)):=
  ⟨_,rfl,fun e he=>by obtain ⟨m,_,rfl⟩:=List.mem_map.mp he;rfl,by decide,rfl⟩
theorem mes_at{l:List Me}{j:Int}(h0:0≤j)(h:j<(l.length:Int)):(l.map meCs)[j.toNat]? =some (meCs (l.getD j.toNat me0)):=by
  have:j.toNat<l.length:=by omega
  simp [List.getElem?_map,List.getElem?_eq_getElem this,List.getD_eq_getElem?_getD]
theorem mes_len(l:List Me):(mes l).length=l.length*18:=el_len me_len l
theorem mes_snoc(l:List Me)(r:Me):mes (l++ [r])=mes l++meCs r:=by simp [mes]
abbrev zMe : Value := .agg #[.int .i64 0, .int .i64 0, .int .i64 0, .int .i64 0, .int .u32 0, .int .i64 0, .int .i64 0, .int .i64 0, .bool false, .bool false, .int .i64 0, .int .u32 0, .int .i64 0, .int .i64 0, .int .i64 0, .int .i64 0, .int .i64 0, .slice none 0 0]
theorem sMes:SlcT Tryz.prog 104 111 18 152 zMe:=SlcT.of Tryz.underlying104 (by kernel_rfl) rfl (by decide)
theorem lMe:LdN Tryz.prog 111 18:=LdN.of _ Tryz.underlying111 rfl (by kernel_rfl)
theorem szMe:(Tryz.prog.info? 111).map (·.size)=some 18:=by kernel_rfl
theorem zvMe:(Tryz.prog.info? 111).map (·.zero)=some (some zMe):=by kernel_rfl
theorem bMe:bInfo Tryz.prog 111=some (zMe,[(0,some 17),(17,some 1)]):=by kernel_rfl
theorem fMe1:fldInfo Tryz.prog 111 1=some (17,some 1):=by kernel_rfl
theorem eqDst:EqF Tryz.prog 159 123 [.i64, .u32, .i64] [.i64]:=⟨by kernel_rfl,by kernel_rfl,by kernel_rfl,by kernel_rfl,by kernel_rfl,by kernel_rfl,by kernel_rfl,by kernel_rfl⟩
theorem keyDst:KeyT Tryz.prog 159 stmE:=eqDst.flat.key stmI (fun _=>rfl) stmI_inj
theorem lDst:LdN Tryz.prog 159 4:=LdN.of _ Tryz.underlying159 rfl (by kernel_rfl)
theorem szDst:(Tryz.prog.info? 159).map (·.size)=some 4:=by kernel_rfl
theorem zvDst:(Tryz.prog.info? 159).map (·.zero)=some (some (.agg #[.int .i64 0, .int .u32 0, .int .i64 0, .int .i64 0])):=by kernel_rfl
theorem bDst:bInfo Tryz.prog 159=some (.agg #[.int .i64 0, .int .u32 0, .int .i64 0, .int .i64 0],[(0,some 3),(3,some 1)]):=by kernel_rfl
theorem fDst0:fldInfo Tryz.prog 159 0=some (0,some 3):=by kernel_rfl
theorem uMDst:Tryz.prog.underlying 156=some (.map 159 93):=Tryz.underlying156
def paF (l : List Rs) (r : Rs) : List (_root_.Fin 4294967296) := pathF (ofF l (trOf r)) r.fl
def mesB (l : List Rs) (r : Rs) : Bool := r.an && (usR r && (decide (r.tt ≤ ((paF l r).length : Int)) && (decide ((paF l r).getD (r.tt.toNat - 1) 0 = r.fr) && (wsO ((paF l r).take r.tt.toNat)).2)))
def meF (l : List Rs) (r : Rs) : Me := (r, (wsO ((paF l r).take r.tt.toNat)).1)
def msF (l : List Rs) : List Me := ((sd cmpR (l.filter okR)).filter (mesB l)).map (meF l)
theorem gomeasures:InGo Tryz.prog 45:=InGo.of Tryz.func45 rfl (by decide)
set_option maxHeartbeats 16000000 in
theorem measures_ok(l:List Rs)(hl:l.length≤10000):Ok Tryz.prog 45 [rssC l] (mesC (msF l)):=by
  have hT:=Traces_ok l hl
  have hOf:=fun t=>Of_ok l t hl
  have hO:=Order_ok l hl
  have hU:=fun r=>Usable_ok r
  have hTl:(trsF l).length≤10000:=by
    have h1:=sd_len cmpT ((l.filter okR).map trOf)
    have h2:=List.length_filter_le okR l
    rw [List.length_map] at h1
    unfold trsF;omega
  have hol:(sd cmpR (l.filter okR)).length≤10000:=by
    have:=sd_len cmpR (l.filter okR)
    have:=List.length_filter_le okR l
    omega
  have hP:=fun r=>Path_ok (ofF l (trOf r)) r.fl (by
    have h1:=sd_len cmpR (l.filter okR)
    have h2:=List.length_filter_le okR l
    have h3:=List.length_filter_le (fun x=>decide (trOf x=trOf r)) (sd cmpR (l.filter okR))
    unfold ofF;omega)
  have hpl:∀r,(paF l r).length≤256:=fun r=>pathF_len _ _
  have hLo:=owF_look l
  have hm:msF l=((sd cmpR (l.filter okR)).filter (mesB l)).map (meF l):=rfl
  have ho:owF l=(trsF l).foldl (fun m t=>ins m t (ofF l t)) []:=rfl
  have hB:∀r,mesB l r=(r.an&&(usR r&&(decide (r.tt≤((paF l r).length:Int))&&(decide ((paF l r).getD (r.tt.toNat - 1) 0=r.fr)&&(wsO ((paF l r).take r.tt.toNat)).2)))):=fun _=>rfl
  have hF:∀r,meF l r=(r,(wsO ((paF l r).take r.tt.toNat)).1):=fun _=>rfl
  generalize msF l=out at hm ⊢
  generalize sd cmpR (l.filter okR)=o at hO hol hm
  generalize owF l=om at hLo ho
  generalize trsF l=ts at hT hTl ho
  generalize mesB l=mb at hB hm
  generalize meF l=mf at hF hm
  refine Ok.enter Tryz.func45 rfl _ Tryz.ntmps45 rfl ?_
  intro S w0
  (refine Qy (Qx fun K hK=> ?_);refine Qv rfl rfl rfl ?_;refine Qj (hK _ _ (Qz (Qy ?_)));clear hK K;refine Qx (fun K hK=> ?_))
  refine Ops.mkMap 6 rfl rfl rfl rfl rfl (fun v1 hv1=> ?_)
  (refine Qv rfl rfl rfl ?_;refine Qj (hK _ _ (Qz (Qy (Qy ?_))));clear hK K;refine Qx (fun K hK=> ?_);refine Qq rfl rfl rfl ?_)
  refine Zo 3 goTraces hT rfl rfl rfl rfl rfl rfl ?_
  refine ZY 3 _ rfl (tks_frozen _ _) noBor_sub ?_
  (refine Qf rfl rfl (by with_reducible first|exact sTks.und|exact sWrs.und|exact sIks.und|exact sAdrs.und) (List.length_map ..) rfl ?_;refine Qq rfl rfl rfl ?_;refine Qj (hK _ _ (Qz (Q1 ?_)));clear hK K)
  refine Qr (α:=Nat) (fun i=>i≤ts.length)
    (fun i=>[(0, .ct (rssC l)),(3, .ct (.ex v1)),(17, .ct (tksC ts)),(18, .ct (intC ts.length)),(19, .ct (intC i))])
    (fun i=>[(6, .mpx v1 (owM ((ts.take i).foldl (fun m t=>ins m t (ofF l t)) [])))])
    (fun i=>ts.length - i) 0 (Nat.zero_le _) (by exact Qu rfl ⟨rfl,rfl,rfl,rfl,rfl,trivial⟩) ?_
  intro i hi
  try dsimp only at hi ⊢
  (refine Qy (Qx fun K hK=> ?_);refine Qk ilss rfl rfl rfl rfl ?_;refine Qj (hK _ _ (Qz (Qy ?_)));clear hK K)
  refine Q2 rfl (fun h=> ?_) (fun h=> ?_)
  · have e2:(i:Int).toNat=i:=Int.toNat_natCast i
    have hs:=foldl_take (fun m t=>ins m t (ofF l t)) ([]:OwM) (z:=tk0) (l:=ts) (i:=i) (by omega)
    generalize (ts.take i).foldl (fun m t=>ins m t (ofF l t)) ([]:OwM)=m at hs ⊢
    (refine QK (Qz (Qy (Q1 (Qy (Qx fun K hK=> ?_))))))
    refine Qt rfl rfl rfl (by with_reducible exact sTks) (by omega) (tks_at (by omega) (by omega)) rfl ?_
    rw [e2]
    generalize ts.getD i tk0=t at hs ⊢
    refine X9 (n:=3) rfl rfl rfl (by with_reducible exact lTrace) rfl rfl ?_
    refine Qg 2 rfl rfl (by with_reducible exact zvTrace) rfl rfl rfl ?_
    refine Qb 3 rfl rfl rfl rfl rfl (by with_reducible exact szTrace) rfl rfl ?_
    (refine Qj (hK _ _ (Qz ?_));clear hK K)
    refine XX (by with_reducible exact mixed) 5 (.p 0 (.p 2 (.f 1 (.f 3 (.m 4 (.a 5 .done)))))) (by kernel_rfl) (fun K hK=> ?_)
    (refine Qq rfl rfl rfl ?_;refine Qq rfl rfl rfl ?_;refine Qe (n:=3) rfl rfl rfl rfl rfl (by with_reducible exact lTrace) rfl ?_;refine Qe (n:=3) rfl rfl rfl rfl rfl (by with_reducible exact lTrace) rfl ?_)
    refine Zo 3 goOf (hOf t) rfl rfl rfl rfl rfl rfl ?_
    refine ZY 3 _ rfl (rss_frozen _ _) noBor_sub ?_
    refine Xu (i:=6) (enc:=tkE) (cv:=rssC) t (ofF l t) rfl rfl rfl (KeyIs.agg (us:=tkVs t) rfl) rfl uMOwn keyTk ?_
    (refine Qj (hK _ _ (Qz ?_));clear hK K;refine Qx (fun K hK=> ?_);refine Qk (iadd (by omega) (by omega)) rfl rfl rfl rfl ?_;refine Qq rfl rfl rfl ?_;refine Qj (hK _ _ (Q6 ?_));clear hK K)
    refine Xj 2 ?_
    refine Q9 (i+1) (by omega) (by omega) (by rw [hs];exact Qu rfl ⟨rfl,rfl,rfl,rfl,by simp only [Int.natCast_add];rfl,trivial⟩)
  have hi' :i=ts.length:=by omega
  rw [hi',List.take_length,←ho]
  clear hT hOf ho hTl
  (refine Qm (Qz (Qy (Qx fun K hK=> ?_))))
  refine Ops.mkMap 8 rfl rfl rfl rfl rfl (fun v2 hv2=> ?_)
  (refine Qv rfl rfl rfl ?_;refine Qj (hK _ _ (Qz (Qy ?_)));clear hK K;refine Qx (fun K hK=> ?_);refine Qv rfl rfl rfl ?_;refine Qj (hK _ _ (Qz (Qy (Qy ?_))));clear hK K;refine Qx (fun K hK=> ?_);refine Qq rfl rfl rfl ?_)
  refine Zo 3 goOrder hO rfl rfl rfl rfl rfl rfl ?_
  refine ZY 3 _ rfl (rss_frozen _ _) noBor_sub ?_
  (refine Qf rfl rfl (by with_reducible exact sRes.und) (List.length_map ..) rfl ?_;refine Qq rfl rfl rfl ?_;refine Qj (hK _ _ (Qz (Q1 ?_)));clear hK K)
  refine Yj 7 4 111 18 rfl rfl rfl ?_
  refine Qr (α:=Nat × KnM) (fun q=>q.1≤o.length∧knOk l q.2)
    (fun q=>[(3, .ct (.ex v1)),(6, .ct (.ex v2)),(7, .own 4),(31, .ct (rssC o)),(32, .ct (intC o.length)),(33, .ct (intC q.1))])
    (fun q=>[(4, .row 111 18 (mes (((o.take q.1).filter mb).map mf))),(8, .mpx v2 (knM q.2)),(6, .mpx v1 (owM om))])
    (fun q=>o.length - q.1) (0,[]) ⟨Nat.zero_le _,fun _ _ h=>by cases h⟩ (by exact Qu rfl ⟨rfl,rfl,rfl,rfl,rfl,rfl,trivial⟩) ?_
  clear h hi hi' i
  intro ⟨i,m⟩ ⟨hi,hm'⟩
  try dsimp only at hi hm' ⊢
  (refine Qy (Qx fun K hK=> ?_);refine Qk ilss rfl rfl rfl rfl ?_;refine Qj (hK _ _ (Qz (Qy ?_)));clear hK K)
  refine Q2 rfl (fun h=> ?_) (fun h=> ?_)
  rotate_left
  · have hi' :i=o.length:=by omega
    rw [hi',List.take_length,←hm]
    (refine Qm (Qz (Qy (Qx fun K hK=> ?_)));refine Qq rfl rfl rfl ?_;refine Qv rfl rfl rfl ?_;refine Qj (hK _ _ (Qz (Q4 ?_)));clear hK K)
    refine Y6 4 _ rfl (mes_frozen _ _) noBor_sub ?_
    refine Q3 [_] rfl (QQ rfl QZ) rfl rfl
  have e2:(i:Int).toNat=i:=Int.toNat_natCast i
  have hs:=filter_take mb (z:=rs0) (i:=i) (l:=o) (by omega)
  have hfl:=filter_len mb o i
  (refine QK (Qz (Qy (Q1 (Qy (Qx fun K hK=> ?_)))));refine Qt rfl rfl rfl (by with_reducible exact sRes) (by omega) (rss_at (by omega) (by omega)) rfl ?_;refine X9 (n:=17) rfl rfl rfl (by with_reducible exact lRes) rfl rfl ?_;refine Qg 0 rfl rfl (by with_reducible exact zvRes) rfl rfl rfl ?_;refine Qb 17 rfl rfl rfl rfl rfl (by with_reducible exact szRes) rfl rfl ?_;refine Qj (hK _ _ (Qz (Qy (Qy ?_))));clear hK K;refine Qx (fun K hK=> ?_);refine QJ rfl rfl rfl (by with_reducible first|exact fS0|exact fS1|exact fS2|exact fS3|exact fS4|exact fS5|exact fS6|exact fS7|exact fS8|exact fS9|exact fS10|exact fS11|exact fN0|exact fN1|exact fN2|exact fN3|exact fN4|exact fN5) rfl ?_;refine QX rfl rfl rfl rfl rfl (by with_reducible first|exact lInt|exact lAddr|exact lBool1|exact Zm) rfl ?_;refine Xx rfl rfl rfl ?_;refine Qq rfl rfl rfl ?_)
  rw [e2]
  generalize o.getD i rs0=r at hs
  generalize (o.take i).filter mb=q at hs hfl ⊢
  rw [hB r] at hs
  have hkn:=fun m (h:knOk l m)=>knOk_ins h (trOf r,r.fl)
  have hal' :=fun p=>hm' (trOf r,r.fl) p
  have hPr:=hP r
  have hpr:=hpl r
  have hFr:=hF r
  have hLr:=hLo (trOf r)
  have hUr:=hU r
  have hTt:usR r=true→1≤r.tt∧r.tt≤255:=usR_tt
  clear hP hpl hF hB hLo hU hm
  dsimp only at hkn hal'
  unfold paF at hs hpr hFr
  generalize pathF (ofF l (trOf r)) r.fl=p at hs hpr hFr hal' hkn hPr
  rw [←hLr] at hPr
  generalize usR r=ub at hUr hTt hs
  refine Xc 40 rfl (fun g1=> ?_) (fun g1=> ?_)
  · rw [if_neg (by simp at g1;simp [g1])] at hs
    (refine Qw rfl rfl rfl ?_;refine Qw rfl rfl rfl ?_;refine Qw rfl rfl rfl ?_;refine Q5 rfl rfl rfl rfl ?_;refine Qj (hK _ _ (Qz (XZ rfl (Qm (Qz ?_)))));clear hK K;refine Qx (fun K hK=> ?_);refine Qk (iadd (by omega) (by omega)) rfl rfl rfl rfl ?_;refine Qq rfl rfl rfl ?_;refine Qj (hK _ _ (Q6 ?_));clear hK K)
    refine Xj 0 ?_
    refine Q9 (i+1,m) (by dsimp only;omega) ⟨by dsimp only;omega,hm'⟩ (by dsimp only;rw [hs];exact Qu rfl ⟨rfl,rfl,rfl,rfl,rfl,by simp only [Int.natCast_add];rfl,trivial⟩)
  have g1:r.an=true:=by simpa using g1
  (refine Qe (n:=17) rfl rfl rfl rfl rfl (by with_reducible exact lRes) rfl ?_)
  refine QV goUsable hUr rfl rfl rfl rfl ?_
  (refine Xx rfl rfl rfl ?_;refine Q8 rfl rfl rfl rfl ?_;refine Qj (hK _ _ (Qz ?_));clear hK K)
  refine X6 rfl (fun g2=> ?_) (fun g2=> ?_)
  · rw [if_neg (by simp at g2;simp [g2])] at hs
    (refine Qm (Qz (Qx fun K hK=> ?_));refine Qk (iadd (by omega) (by omega)) rfl rfl rfl rfl ?_;refine Qq rfl rfl rfl ?_;refine Qj (hK _ _ (Q6 ?_));clear hK K)
    refine Xj 0 ?_
    refine Q9 (i+1,m) (by dsimp only;omega) ⟨by dsimp only;omega,hm'⟩ (by dsimp only;rw [hs];exact Qu rfl ⟨rfl,rfl,rfl,rfl,rfl,by simp only [Int.natCast_add];rfl,trivial⟩)
  have g2:ub=true:=by simpa using g2
  obtain ⟨t1,t2⟩:=hTt g2
  rw [g1,g2,Bool.true_and,Bool.true_and] at hs
  clear hTt hUr
  (refine QK (Qz (Qy ?_)))
  refine YJ (α:=Unit) (fun _=>True) (fun _=>[(3, .ct (.ex v1)),(6, .ct (.ex v2)),(7, .own 4),(31, .ct (rssC o)),(32, .ct (intC o.length)),(33, .ct (intC i)),(9, .own 0),(10, .own 1)])
    (fun _=>[(1, .box 159 (stmCs (trOf r,r.fl))),(0, .box 47 (rsCs r)),(4, .row 111 18 (mes (q.map mf))),(8, .mpx v2 (knM m)),(6, .mpx v1 (owM om))]) (fun _ _=> ?_) (fun KN hM=> ?_)
  rotate_left
  · refine XX (by with_reducible exact mixed) 6 (.p 2 (.f 0 (.f 3 (.fork 1 (.p 4 (.m 5 (.a 6 .done))) 5 (.m 1 (.p 4 (.a 6 .done))))))) (by kernel_rfl) (fun K hK=> ?_)
    (refine QJ rfl rfl rfl (by with_reducible first|exact fS0|exact fS1|exact fS2|exact fS3|exact fS4|exact fS5|exact fS6|exact fS7|exact fS8|exact fS9|exact fS10|exact fS11|exact fN0|exact fN1|exact fN2|exact fN3|exact fN4|exact fN5) rfl ?_;refine Qe (n:=17) rfl rfl rfl rfl rfl (by with_reducible exact lRes) rfl ?_;refine QX rfl rfl rfl rfl rfl (by with_reducible first|exact lInt|exact lAddr|exact lBool1|exact Zm) rfl ?_)
    refine Ops.fork ?_ ?_
    · refine QV goTraceOf (TraceOf_ok r) rfl rfl rfl rfl ?_
      refine Qo rfl (by with_reducible exact bDst) rfl (.agg rfl rfl rfl rfl (.one rfl rfl rfl rfl .nil)) rfl ?_
      refine Qg 1 rfl rfl (by with_reducible exact zvDst) rfl rfl rfl ?_
      refine Qb 4 rfl rfl rfl rfl rfl (by with_reducible exact szDst) rfl rfl ?_
      (refine Qj (hK _ _ ?_);clear hK K)
      exact Xk hM () trivial (Qu rfl ⟨rfl,rfl,rfl,rfl,rfl,rfl,rfl,rfl,trivial⟩)
    · refine Qg 1 rfl rfl (by with_reducible exact zvDst) rfl rfl rfl ?_
      refine QV goTraceOf (TraceOf_ok r) rfl rfl rfl rfl ?_
      refine Qo rfl (by with_reducible exact bDst) rfl (.agg rfl rfl rfl rfl (.one rfl rfl rfl rfl .nil)) rfl ?_
      refine Qb 4 rfl rfl rfl rfl rfl (by with_reducible exact szDst) rfl rfl ?_
      (refine Qj (hK _ _ ?_);clear hK K)
      exact Xk hM () trivial (Qu rfl ⟨rfl,rfl,rfl,rfl,rfl,rfl,rfl,rfl,trivial⟩)
  (refine Qy (Qx fun K hK=> ?_);refine Qq rfl rfl rfl ?_)
  refine Qe (n:=4) rfl rfl rfl rfl rfl (by with_reducible exact lDst) rfl ?_
  refine Ops.lookM2 (i:=8) (cv:=adsC) (enc:=stmE) [] (trOf r,r.fl) rfl rfl rfl rfl (KeyIs.agg (us:=stmV (trOf r,r.fl)) rfl) uMDst z0Ads (fun S w=>Yc S w _ rfl) keyDst rfl ?_
  generalize look1 m (trOf r,r.fl)=lk at hal'
  refine Qq rfl rfl rfl ?_
  refine Q0 rfl rfl rfl rfl ?_
  refine Q0 rfl rfl rfl rfl ?_
  refine Qv rfl rfl rfl ?_
  refine Qv rfl rfl rfl ?_
  refine Qj (hK _ _ ?_)
  clear hK K
  refine Qz ?_
  refine Qy ?_
  refine YJ (α:=KnM) (fun m=>knOk l m) (fun _=>[(3, .ct (.ex v1)),(6, .ct (.ex v2)),(7, .own 4),(31, .ct (rssC o)),(32, .ct (intC o.length)),(33, .ct (intC i)),(9, .own 0),(10, .own 1),(11, .ct (adsC p))])
    (fun m=>[(1, .box 159 (stmCs (trOf r,r.fl))),(0, .box 47 (rsCs r)),(4, .row 111 18 (mes (q.map mf))),(8, .mpx v2 (knM m)),(6, .mpx v1 (owM om))]) (fun m2 hm2=> ?_) (fun KN hM=> ?_)
  rotate_left
  · (refine Qy (Qx fun K hK=> ?_);refine Qq rfl rfl rfl ?_;refine Xx rfl rfl rfl ?_;refine Qj (hK _ _ (Qz ?_));clear hK K)
    refine X6 rfl (fun h2=> ?_) (fun h2=> ?_)
    · (refine Qy ?_)
      refine XX (by with_reducible exact mixed) 8 (.p 0 (.p 1 (.p 4 (.f 2 (.f 3 (.f 5 (.m 6 (.p 7 .done)))))))) (by kernel_rfl) (fun K hK=> ?_)
      (refine Qq rfl rfl rfl ?_)
      refine QJ rfl rfl rfl (by with_reducible exact fDst0) rfl ?_
      (refine QJ rfl rfl rfl (by with_reducible first|exact fS0|exact fS1|exact fS2|exact fS3|exact fS4|exact fS5|exact fS6|exact fS7|exact fS8|exact fS9|exact fS10|exact fS11|exact fN0|exact fN1|exact fN2|exact fN3|exact fN4|exact fN5) rfl ?_)
      refine Zt (n:=3) rfl rfl rfl rfl (Nat.le_of_ble_eq_true rfl) (by with_reducible exact lTrace) rfl ?_
      refine Ops.lookM (i:=6) (enc:=tkE) (cv:=rssC) [] (trOf r) rfl rfl rfl rfl (KeyIs.agg (us:=tkVs (trOf r)) rfl) uMOwn z0Rss (fun S w=>Yc S w _ rfl) keyTk rfl ?_
      (refine QX rfl rfl rfl rfl rfl (by with_reducible first|exact lInt|exact lAddr|exact lBool1|exact Zm) rfl ?_)
      refine Zo 3 goPath hPr rfl rfl rfl rfl rfl rfl ?_
      refine ZY 3 _ rfl (adrs_frozen _ _) noBor_sub ?_
      (refine Qv rfl rfl rfl ?_;refine Qj (hK _ _ (Qz ?_));clear hK K;refine Qx (fun K hK=> ?_);refine Qq rfl rfl rfl ?_)
      refine Qe (n:=4) rfl rfl rfl rfl rfl (by with_reducible exact lDst) rfl ?_
      (refine Qq rfl rfl rfl ?_)
      refine Xu (i:=8) (enc:=stmE) (cv:=adsC) (trOf r,r.fl) p rfl rfl rfl (KeyIs.agg (us:=stmV (trOf r,r.fl)) rfl) rfl uMDst keyDst ?_
      (refine Qj (hK _ _ ?_);clear hK K)
      exact Xk hM _ (hkn m hm') (Qu rfl ⟨rfl,rfl,rfl,rfl,rfl,rfl,rfl,rfl,rfl,trivial⟩)
    · cases lk with
      |none=>cases h2
      |some p' =>
        rw [←hal' p' rfl] at hM
        (refine QK ?_)
        exact Xk hM m hm' (Qu rfl ⟨rfl,rfl,rfl,rfl,rfl,rfl,rfl,rfl,rfl,trivial⟩)
  clear hal' hkn hPr hm'
  (refine Qy (Qy ?_))
  refine XX (by with_reducible exact mixed) 17 (.p 0 (.p 1 (.p 2 (.f 3 (.p 4 (.p 5 (.p 6 (.p 7 (.p 12 (.p 13 (.f 8 (.p 9 (.p 10 (.f 11 (.f 14 (.p 15 (.p 16 .done))))))))))))))))) (by kernel_rfl) (fun K hK=> ?_)
  (refine Qq rfl rfl rfl ?_;refine Qf rfl rfl (by with_reducible first|exact sTks.und|exact sWrs.und|exact sIks.und|exact sAdrs.und) (List.length_map ..) rfl ?_;refine QJ rfl rfl rfl (by with_reducible first|exact fS0|exact fS1|exact fS2|exact fS3|exact fS4|exact fS5|exact fS6|exact fS7|exact fS8|exact fS9|exact fS10|exact fS11|exact fN0|exact fN1|exact fN2|exact fN3|exact fN4|exact fN5) rfl ?_;refine QX rfl rfl rfl rfl rfl (by with_reducible first|exact lInt|exact lAddr|exact lBool1|exact Zm) rfl ?_;refine Qk ilss rfl rfl rfl rfl ?_;refine Qq rfl rfl rfl ?_)
  refine Qi 73 rfl (fun g3=> ?_) (fun g3=> ?_)
  · rw [if_neg (by rw [decide_eq_false (show ¬r.tt≤(p.length:Int) by omega)];simp)] at hs
    (refine Qw rfl rfl rfl ?_;refine Qw rfl rfl rfl ?_;refine Qw rfl rfl rfl ?_;refine Qw rfl rfl rfl ?_;refine Qw rfl rfl rfl ?_;refine Qw rfl rfl rfl ?_;refine Qw rfl rfl rfl ?_;refine Qw rfl rfl rfl ?_;refine Qw rfl rfl rfl ?_;refine Qw rfl rfl rfl ?_;refine Q5 rfl rfl rfl rfl ?_;refine Qj (hK _ _ (Qz (XZ rfl (Qm (Qz ?_)))));clear hK K;refine Qx (fun K hK=> ?_);refine Qk (iadd (by omega) (by omega)) rfl rfl rfl rfl ?_;refine Qq rfl rfl rfl ?_;refine Qj (hK _ _ (Q6 ?_));clear hK K)
    refine Xj 1 ?_
    refine Xj 0 ?_
    refine Q9 (i+1,m2) (by dsimp only;omega) ⟨by dsimp only;omega,hm2⟩ (by dsimp only;rw [hs];exact Qu rfl ⟨rfl,rfl,rfl,rfl,rfl,by simp only [Int.natCast_add];rfl,trivial⟩)
  rw [decide_eq_true (show r.tt≤(p.length:Int) by omega),Bool.true_and] at hs
  have e6:(r.tt - 1).toNat=r.tt.toNat - 1:=by omega
  (refine Qq rfl rfl rfl ?_;refine QJ rfl rfl rfl (by with_reducible first|exact fS0|exact fS1|exact fS2|exact fS3|exact fS4|exact fS5|exact fS6|exact fS7|exact fS8|exact fS9|exact fS10|exact fS11|exact fN0|exact fN1|exact fN2|exact fN3|exact fN4|exact fN5) rfl ?_;refine QJ rfl rfl rfl (by with_reducible first|exact fS0|exact fS1|exact fS2|exact fS3|exact fS4|exact fS5|exact fS6|exact fS7|exact fS8|exact fS9|exact fS10|exact fS11|exact fN0|exact fN1|exact fN2|exact fN3|exact fN4|exact fN5) rfl ?_;refine Z2 rfl rfl (by with_reducible first|exact fN0|exact fN1|exact fN2|exact fN3|exact fN4|exact fN5) rfl ?_;refine QX rfl rfl rfl rfl rfl (by with_reducible first|exact lInt|exact lAddr|exact lBool1|exact Zm) rfl ?_;refine Qk (isub (by omega) (by omega)) rfl rfl rfl rfl ?_)
  refine Qt rfl rfl rfl (by with_reducible exact sAdrs) (by omega) (adrs_at (by omega) (by omega)) rfl ?_
  rw [e6]
  skip
  refine XU rfl rfl rfl (by with_reducible exact lAddr) rfl ?_
  (refine QX rfl rfl rfl rfl rfl (by with_reducible first|exact lInt|exact lAddr|exact lBool1|exact Zm) rfl ?_;refine Qk ineq rfl rfl rfl rfl ?_;refine Q8 rfl rfl rfl rfl ?_;refine Qj (hK _ _ (Qz ?_));clear hK K)
  refine Q2 rfl (fun g4=> ?_) (fun g4=> ?_)
  · have g4:¬p.getD (r.tt.toNat - 1) 0=r.fr:=fun h=>g4 (by rw [h])
    rw [if_neg (by rw [decide_eq_false g4];simp)] at hs
    (refine Qm (Qz (Qx fun K hK=> ?_));refine Qk (iadd (by omega) (by omega)) rfl rfl rfl rfl ?_;refine Qq rfl rfl rfl ?_;refine Qj (hK _ _ (Q6 ?_));clear hK K)
    refine Xj 1 ?_
    refine Xj 0 ?_
    refine Q9 (i+1,m2) (by dsimp only;omega) ⟨by dsimp only;omega,hm2⟩ (by dsimp only;rw [hs];exact Qu rfl ⟨rfl,rfl,rfl,rfl,rfl,by simp only [Int.natCast_add];rfl,trivial⟩)
  have g4:p.getD (r.tt.toNat - 1) 0=r.fr:=_root_.Fin.ext (by have:=Decidable.not_not.1 g4;omega)
  rw [decide_eq_true g4,Bool.true_and] at hs
  (refine QK (Qz (Qy (Qx fun K hK=> ?_)));refine Qq rfl rfl rfl ?_;refine QJ rfl rfl rfl (by with_reducible first|exact fS0|exact fS1|exact fS2|exact fS3|exact fS4|exact fS5|exact fS6|exact fS7|exact fS8|exact fS9|exact fS10|exact fS11|exact fN0|exact fN1|exact fN2|exact fN3|exact fN4|exact fN5) rfl ?_;refine QX rfl rfl rfl rfl rfl (by with_reducible first|exact lInt|exact lAddr|exact lBool1|exact Zm) rfl ?_)
  refine Ops.cutHi rfl rfl rfl (by with_reducible exact sAdrs) (by omega) (by rw [List.length_map];omega) rfl ?_
  rw [←List.map_take]
  have hw:=wires_ok (p.take r.tt.toNat) (by rw [List.length_take];omega)
  generalize wsO (p.take r.tt.toNat)=wo at hs hw hFr
  obtain ⟨ws,wb⟩:=wo
  dsimp only at hs hw hFr
  refine QV gowires hw rfl rfl rfl rfl ?_
  (refine Qq rfl rfl rfl ?_;refine Q0 rfl rfl rfl rfl ?_;refine Q0 rfl rfl rfl rfl ?_;refine Qv rfl rfl rfl ?_;refine Qv rfl rfl rfl ?_;refine Qj (hK _ _ (Qz (Qy ?_)));clear hK K;refine Qx (fun K hK=> ?_);refine Qq rfl rfl rfl ?_;refine Qj (hK _ _ (Qz ?_));clear hK K)
  refine X6 rfl (fun g5=> ?_) (fun g5=> ?_)
  · rw [if_pos g5] at hs
    (refine Qx (fun K hK=> ?_);refine Qq rfl rfl rfl ?_;refine Qe (n:=17) rfl rfl rfl rfl rfl (by with_reducible exact lRes) rfl ?_;refine Qq rfl rfl rfl ?_)
    refine Qo rfl (by with_reducible exact bMe) rfl (.agg rfl rfl rfl rfl (.one rfl rfl rfl rfl .nil)) rfl ?_
    refine Ze (n:=18) rfl rfl (by with_reducible exact sMes) rfl rfl (by decide) rfl ?_
    refine Xq (q.map mf).length (mes (q.map mf++ [(r,ws)])) rfl rfl rfl rfl (by with_reducible exact sMes) (mes_len _) rfl (by rw [List.length_map];omega) (by rw [List.length_map];omega) (mes_snoc _ _) rfl ?_
    (refine Qv rfl rfl rfl ?_;refine Qj (hK _ _ (Qz ?_));clear hK K;refine Qx (fun K hK=> ?_);refine Qk (iadd (by omega) (by omega)) rfl rfl rfl rfl ?_;refine Qq rfl rfl rfl ?_;refine Qj (hK _ _ (Q6 ?_));clear hK K)
    refine Xj 1 ?_
    refine Xj 0 ?_
    refine Q9 (i+1,m2) (by dsimp only;omega) ⟨by dsimp only;omega,hm2⟩ (by dsimp only;rw [hs,List.map_append,List.map_singleton,hFr];exact Qu rfl ⟨rfl,rfl,rfl,rfl,rfl,by simp only [Int.natCast_add];rfl,trivial⟩)
  · rw [if_neg (by rw [g5];decide)] at hs
    (refine QK (Qz (Qx fun K hK=> ?_));refine Qk (iadd (by omega) (by omega)) rfl rfl rfl rfl ?_;refine Qq rfl rfl rfl ?_;refine Qj (hK _ _ (Q6 ?_));clear hK K)
    refine Xj 1 ?_
    refine Xj 0 ?_
    refine Q9 (i+1,m2) (by dsimp only;omega) ⟨by dsimp only;omega,hm2⟩ (by dsimp only;rw [hs];exact Qu rfl ⟨rfl,rfl,rfl,rfl,rfl,by simp only [Int.natCast_add];rfl,trivial⟩)
set_option maxHeartbeats 2000000 in
theorem IndexFunc_res(xs:List Rs)(f:FuncId)(p:Rs→Bool)(hgo:InGo Tryz.prog f)(hf:∀x∈xs,Ok Tryz.prog f [rsC x] (boolC (p x)))(hl:xs.length<4611686018427387904):Ok Tryz.prog 100 [rssC xs,(.ex (.func (.func f) #[] #[]))] (intC (idxI p xs)):=by
  refine Ok.enter Tryz.func100 rfl _ Tryz.ntmps100 rfl ?_
  intro S w
  (refine Qy (Qx fun K hK=> ?_);refine Qv rfl rfl rfl ?_;refine Qj (hK _ _ (Qz (Qy (Qy ?_))));clear hK K;refine Qx (fun K hK=> ?_);refine Qq rfl rfl rfl ?_;refine Qf rfl rfl (by with_reducible exact sRes.und) (List.length_map ..) rfl ?_;refine Qq rfl rfl rfl ?_;refine Qj (hK _ _ (Qz (Q1 ?_)));clear hK K)
  refine Qr (α:=Nat) (fun i=>i≤xs.length∧∀j,j<i→p (xs.getD j rs0)=false)
    (fun i=>[(0, .ct (rssC xs)),(1, .ct (.ex (.func (.func f) #[] #[]))),(7, .ct (intC xs.length)),(8, .ct (intC i))]) (fun _=>[]) (fun i=>xs.length - i) 0 ⟨Nat.zero_le _,fun j h=>absurd h (Nat.not_lt_zero j)⟩ (by exact Qu rfl ⟨rfl,rfl,rfl,rfl,trivial⟩) ?_
  intro i ⟨hi,hv⟩
  dsimp only
  (refine Qy (Qx fun K hK=> ?_);refine Qk ilss rfl rfl rfl rfl ?_;refine Qj (hK _ _ (Qz (Qy ?_)));clear hK K)
  refine Q2 rfl (fun h=> ?_) (fun h=> ?_)
  · have e2:(i:Int).toNat=i:=Int.toNat_natCast i
    (refine QK (Qz (Qy (Q1 (Qy (Qx fun K hK=> ?_)))));refine Qq rfl rfl rfl ?_;refine Qv rfl rfl rfl ?_;refine Qj (hK _ _ (Qz (Qy ?_)));clear hK K;refine Qx (fun K hK=> ?_);refine Qq rfl rfl rfl ?_;refine Qq rfl rfl rfl ?_;refine Qq rfl rfl rfl ?_;refine Qt rfl rfl rfl (by with_reducible exact sRes) (by omega) (rss_at (by omega) (by omega)) rfl ?_;refine X9 (n:=17) rfl rfl rfl (by with_reducible exact lRes) rfl rfl ?_)
    try rw [e2]
    skip
    refine Ops.callF hgo rfl (hf _ (getD_mem (by omega))) rfl rfl rfl rfl ?_
    (refine Qj (hK _ _ (Qz ?_));clear hK K)
    refine X6 rfl (fun h2=> ?_) (fun h2=> ?_)
    · (refine Qy (Qx fun K hK=> ?_);refine Qq rfl rfl rfl ?_;refine Qv rfl rfl rfl ?_;refine Qj (hK _ _ (Qz (Q4 (Qa (QY (QY (Qa (QY ?_))))))));clear hK K)
      refine Q3 [_] rfl (QQ rfl QZ) (by rw [idxI_hit (by omega) h2 hv];rfl) rfl
    · (refine QK (Qz (Qx fun K hK=> ?_));refine Qk (iadd (by omega) (by omega)) rfl rfl rfl rfl ?_;refine Qq rfl rfl rfl ?_;refine Qj (hK _ _ (Q6 ?_));clear hK K)
      refine Q9 (i+1) (by omega) ⟨by omega,?_⟩ (by exact Qu rfl ⟨rfl,rfl,rfl,by simp only [Int.natCast_add];rfl,trivial⟩)
      intro j hj
      rcases Nat.lt_or_ge j i with h3|h3
      · exact hv j h3
      · have:j=i:=by omega
        rw [this];exact h2
  · have hi' :i=xs.length:=by omega
    (refine Qm (Qz (Qy (Qx fun K hK=> ?_)));refine Qv rfl rfl rfl ?_;refine Qj (hK _ _ (Qz (Q4 ?_)));clear hK K)
    refine Q3 [_] rfl (QQ rfl QZ) (by rw [idxI_miss (fun j hj=>hv j (by omega))];rfl) rfl
theorem goIndexFunc_res:InGo Tryz.prog 100:=InGo.of Tryz.func100 (by kernel_rfl) (by kernel_rfl)
theorem ContainsFunc_res(xs:List Rs)(f:FuncId)(p:Rs→Bool)(hgo:InGo Tryz.prog f)(hf:∀x∈xs,Ok Tryz.prog f [rsC x] (boolC (p x)))(hl:xs.length<4611686018427387904):Ok Tryz.prog 56 [rssC xs,(.ex (.func (.func f) #[] #[]))] (boolC (xs.any p)):=by
  refine Ok.enter Tryz.func56 rfl _ Tryz.ntmps56 rfl ?_
  intro S w
  (refine Qy (Qx fun K hK=> ?_);refine Qv rfl rfl rfl ?_;refine Qj (hK _ _ (Qz (Qy ?_)));clear hK K;refine Qx (fun K hK=> ?_);refine Qq rfl rfl rfl ?_;refine Qq rfl rfl rfl ?_)
  refine QV goIndexFunc_res (IndexFunc_res xs f p hgo hf hl) rfl rfl rfl rfl ?_
  (refine Qk igeq rfl rfl rfl rfl ?_;refine Qv rfl rfl rfl ?_;refine Qj (hK _ _ (Qz (Q4 ?_)));clear hK K)
  refine Q3 [_] rfl (QQ rfl QZ) (by rw [←idxI_any];rfl) rfl
theorem goContainsFunc_res:InGo Tryz.prog 56:=InGo.of Tryz.func56 (by kernel_rfl) (by kernel_rfl)
end Go.Proofs.YtojkdfilabmafaaGreat
namespace Go.Proofs.YtojkdfilabmafaaGreat
open Go.Own Go.Limbs
attribute [local irreducible] St Ops Go.Own.Fin Ok OkB OkN OkT OkL OkF
theorem goClash:InGo Tryz.prog 167:=InGo.of Tryz.func167 rfl (by decide)
theorem drop_getD{α:Type}{l:List α}{z:α}{i:Nat}(h:i<l.length):l.drop i=l.getD i z::l.drop (i+1):=by
  rw [List.drop_eq_getElem_cons h,List.getD_eq_getElem?_getD,List.getElem?_eq_getElem h];rfl
set_option maxHeartbeats 4000000 in
theorem Clash_ok(l:List Rs)(hl:l.length≤100000):Ok Tryz.prog 167 [rssC l] (intC (clashG [] l)):=by
  refine Ok.enter Tryz.func167 J _ Tryz.ntmps167 J ?_
  intro S w;refine Qy (Qx fun K hK=> ?_);refine Qv J J J (Qj (hK _ _ (Qz (Qy ?_))));clear hK K;refine Qx (fun K hK=> ?_);refine Ops.mkMap 8 J J J J J (fun v1 hv1=> ?_);refine Qv J J J (Qj (hK _ _ (Qz (Qy (Qy ?_)))));clear hK K;refine Qx (fun K hK=> ?_);refine Qq J J J (Qf J J sRes.und (List.length_map ..) J (Qq J J J (Qj (hK _ _ (Qz (Q1 ?_))))));clear hK K
  refine Qr (α:=Nat × SeenM) (fun q=>q.1≤l.length∧clashG [] l=q.1+clashG q.2 (l.drop q.1))
    (fun q=>[(3, .ct (.ex v1)),(0, .ct (rssC l)),(11, .ct (rssC l)),(12, .ct (intC l.length)),(13, .ct (intC q.1))]) (fun q=>[(8, .mpx v1 (kvs esE adrF q.2))]) (fun q=>l.length - q.1) (0,[]) ⟨Nat.zero_le _,(Nat.zero_add _).symm⟩ (by exact Qu J ⟨rfl,rfl,rfl,rfl,rfl,trivial⟩) ?_
  rintro ⟨i,m⟩ ⟨hi,hq⟩
  try dsimp only at hi hq ⊢
  refine Qy (Qx fun K hK=> ?_);refine Qk ilss J J J J (Qj (hK _ _ (Qz (Qy ?_))));clear hK K;refine Q2 J (fun h=> ?_) (fun h=> ?_)
  · have e2:(i:Int).toNat=i:=Int.toNat_natCast i;rw [drop_getD (z:=rs0) (show i<l.length by omega)] at hq;refine QK (Qz (Qy (Q1 (Qy (Qx fun K hK=> ?_)))));refine Qq J J J (Qt J J J sRes (by omega) (rss_at (by omega) (by omega)) J ?_);refine X9 (n:=17) J J J lRes J J (Qg 0 J J zvRes J J J (Qv J J J (Qb 17 J J J J J szRes J J (Qj (hK _ _ (Qz (Qy ?_)))))));clear hK K;refine Qx (fun K hK=> ?_)
    refine Qe (n:=17) J J J J J lRes J ?_
    rw [e2];generalize l.getD i rs0=c at hq ⊢;have hP:=Place_ok c;simp only [clashG] at hq;generalize plS c=sc at hP hq;generalize plB c=pc at hP hq;skip;refine QV goPlace hP J J J J (Qq J J J (Q0 J J J J (Q0 J J J J (Qg 3 J J zvES J J J (Qb 5 J J J J J szES J J (Qv J J J (Qj (hK _ _ (Qz (Qy (Qy ?_)))))))))));clear hK K;refine Qx (fun K hK=> ?_);refine Qq J J J (Xx J J J (Qj (hK _ _ (Qz ?_))));clear hK K;refine X6 J (fun h1=> ?_) (fun h1=> ?_)
    · have h1' :pc=false:=by simpa using h1
      rw [if_pos h1'] at hq;refine Qm (Qz (Qx fun K hK=> ?_))
      refine Qk (iadd (by omega) (by omega)) J J J J ?_
      refine Qq J J J (Qj (hK _ _ (Q6 ?_)));clear hK K;refine Xj 3 (Xj 0 (Q9 (i+1,m) (by dsimp only;omega) ⟨by dsimp only;omega,by dsimp only;omega⟩ (by exact Qu J ⟨rfl,rfl,rfl,rfl,by simp only [Int.natCast_add];rfl,trivial⟩)))
    · have h1' :pc=true:=by simpa using h1
      rw [if_neg (by rw [h1'];decide)] at hq;refine QK (Qz (Qy (Qy (Qx fun K hK=> ?_))));refine Qq J J J (Qe (n:=5) J J J J J lES J (Ops.lookM2 (i:=8) (cv:=adrF) (enc:=esE) 0 sc J J J J (KeyIs.agg (us:=esV sc) J) uMSeen z0Adr (fun _ _=>rfl) keyES J ?_));generalize (look1 m sc).isSome=b at hq ⊢;generalize (look1 m sc).getD 0=a at hq ⊢;refine Qq J J J (Q0 J J J J (Q0 J J J J (Qv J J J (Qv J J J (Qj (hK _ _ (Qz (Qy ?_))))))));clear hK K;refine Qx (fun K hK=> ?_);refine Qq J J J (Qq J J J (Xc 32 (b:=b) J (fun h2=> ?_) (fun h2=> ?_)))
      · refine Qq J J J (QJ J J J fS11 J (Z2 J J fN0 J (QX J J J J J lAddr J (Qk ineq J J J J (Q5 J J J J (Qj (hK _ _ (Qz ?_))))))));clear hK K;refine Q2 J (fun h3=> ?_) (fun h3=> ?_)
        · rw [if_pos ⟨h2,fun h=>h3 (by rw [h])⟩] at hq;refine Qy (Qx fun K hK=> ?_);refine Qq J J J (Qv J J J (Qj (hK _ _ (Qz (Q4 (QY (Qa (QY (QY (Qa (QY ?_)))))))))));clear hK K;refine Q3 [_] rfl (QQ J QZ) (by rw [hq];rfl) J
        · rw [if_neg (fun h=>h.2 (Fin.ext (by omega)))] at hq;refine QK (Qz (Qx fun K hK=> ?_));refine Qq J J J (Qe (n:=5) J J J J J lES J (QJ J J J fS11 J (Z2 J J fN0 J (QX J J J J J lAddr J (Xu (i:=8) (enc:=esE) (cv:=adrF) sc c.fr J J J (KeyIs.agg (us:=esV sc) J) J uMSeen keyES (Qj (hK _ _ (Qz ?_))))))));clear hK K;refine Qx (fun K hK=> ?_)
          refine Qk (iadd (by omega) (by omega)) J J J J ?_
          refine Qq J J J (Qj (hK _ _ (Q6 ?_)));clear hK K;refine Xj 3 (Xj 0 (Q9 (i+1,ins m sc c.fr) (by dsimp only;omega) ⟨by dsimp only;omega,by dsimp only;omega⟩ (by exact Qu J ⟨rfl,rfl,rfl,rfl,by simp only [Int.natCast_add];rfl,trivial⟩)))
      · rw [if_neg (fun h=>by rw [h2] at h;cases h.1)] at hq;refine Qw J J J (Qw J J J (Qw J J J (Qw J J J (Qw J J J (Q8 J J J J (Qj (hK _ _ (Qz (Xw J (QK (Qz ?_)))))))))));clear hK K;refine Qx (fun K hK=> ?_);refine Qq J J J (Qe (n:=5) J J J J J lES J (QJ J J J fS11 J (Z2 J J fN0 J (QX J J J J J lAddr J (Xu (i:=8) (enc:=esE) (cv:=adrF) sc c.fr J J J (KeyIs.agg (us:=esV sc) J) J uMSeen keyES (Qj (hK _ _ (Qz ?_))))))));clear hK K;refine Qx (fun K hK=> ?_)
        refine Qk (iadd (by omega) (by omega)) J J J J ?_
        refine Qq J J J (Qj (hK _ _ (Q6 ?_)));clear hK K;refine Xj 3 (Xj 0 (Q9 (i+1,ins m sc c.fr) (by dsimp only;omega) ⟨by dsimp only;omega,by dsimp only;omega⟩ (by exact Qu J ⟨rfl,rfl,rfl,rfl,by simp only [Int.natCast_add];rfl,trivial⟩)))
  · have hi' :i=l.length:=by omega
    rw [hi',List.drop_length] at hq;simp only [clashG,Nat.add_zero] at hq;refine Qm (Qz (Qy (Qx fun K hK=> ?_)));refine Qq J J J (Qf J J sRes.und (List.length_map ..) J (Qv J J J (Qj (hK _ _ (Qz (Q4 ?_))))));clear hK K;refine Q3 [_] rfl (QQ J QZ) (by rw [hq];rfl) J
theorem witG_loop{p:Rs→Bool}{z:Rs}:∀(l:List Rs) (i:Nat),(∀j,j<i→j<l.length→p (l.getD j z)=false)→i≤l.length→l.findIdx? p=((l.drop i).findIdx? p).map (· +i)
  | [],i,_,h=>by
    have:i=0:=by simpa using h
    subst this;rfl
  |a::l,0,_,_=>by simp
  |a::l,i+1,h,hi=>by
    have h0:p a=false:=h 0 (Nat.succ_pos _) (Nat.succ_pos _)
    have ih:=witG_loop l i (fun j h1 h2=>h (j+1) (by omega) (by simpa using h2)) (by simpa using hi)
    rw [List.findIdx?_cons,h0,ih]
    simp only [List.drop_succ_cons,Bool.false_eq_true,if_false,Option.map_map,Function.comp_def]
    rfl
abbrev witC (o : List Rs) : List CT := match witG o with
  | some i => [ikC (idOf (o.getD i rs0)), ikC (idOf (o.getD (clashG [] o) rs0)), boolC true]
  | none => [ikC ⟨0, 0, 0⟩, ikC ⟨0, 0, 0⟩, boolC false]
theorem goWitness:InGo Tryz.prog 105:=InGo.of Tryz.func105 rfl (by decide)
theorem take_getD{l:List Rs}{z:Rs}{k i:Nat}(h:i<k):(l.take k).getD i z=l.getD i z:=by
  rw [List.getD_eq_getElem?_getD,List.getElem?_take_of_lt h,←List.getD_eq_getElem?_getD]
theorem fidx_drop{p:Rs→Bool}{z:Rs}{l:List Rs}{k i:Nat}(hk:k≤l.length)(hi:i≤k)(h:∀j,j<i→p (l.getD j z)=false):(l.take k).findIdx? p=(((l.take k).drop i).findIdx? p).map (· +i):=by
  refine witG_loop (z:=z) (l.take k) i (fun j h1 h2=> ?_) (by rw [List.length_take];omega);rw [List.getD_eq_getElem?_getD,List.getElem?_take_of_lt (by rw [List.length_take] at h2;omega),←List.getD_eq_getElem?_getD];exact h j h1
set_option maxHeartbeats 4000000 in
theorem Witness_ok(l:List Rs)(hl:l.length≤10000):Ok Tryz.prog 105 [rssC l] (.fr (tupT (witC (sd cmpR (l.filter okR))))):=by
  have hO:=Order_ok l hl
  have hol:(sd cmpR (l.filter okR)).length≤10000:=by
    have:=sd_len cmpR (l.filter okR);have:=List.length_filter_le okR l;omega
  generalize sd cmpR (l.filter okR)=o at hO hol ⊢;have hC:=Clash_ok o (by omega);have hle:=clashG_le o []
  have ew:witG o=if clashG [] o<o.length then (o.take (clashG [] o)).findIdx? (fun a=>conB a (o.getD (clashG [] o) rs0)) else none:=rfl
  have eC:(CT.fr (tupT (witC o)))= .fr (tupT (match witG o with
    |some i=>[ikC (idOf (o.getD i rs0)),ikC (idOf (o.getD (clashG [] o) rs0)),boolC true]
    |none=>[ikC ⟨0,0,0⟩,ikC ⟨0,0,0⟩,boolC false])):=rfl
  rw [eC];clear eC;generalize clashG [] o=k at hC hle ew ⊢;generalize witG o=wt at ew ⊢
  refine Ok.enter Tryz.func105 J _ Tryz.ntmps105 J ?_
  intro S w;refine Qy (Qx fun K hK=> ?_);refine Qg 0 J J zvID J J J (Qg 1 J J zvID J J J (Qv J J J (Qj (hK _ _ (Qz (Qy ?_))))));clear hK K;refine Qx (fun K hK=> ?_);refine Qq J J J (Zo 3 goOrder hO J J J J J J (ZY 3 _ J (rss_frozen _ _) noBor_sub (Qv J J J (Qj (hK _ _ (Qz (Qy ?_)))))));clear hK K;refine Qx (fun K hK=> ?_);refine Qq J J J (QV goClash hC J J J J (Qv J J J (Qj (hK _ _ (Qz (Qy (Qy ?_)))))));clear hK K;refine Qx (fun K hK=> ?_);refine Qv J J J (Qj (hK _ _ (Qz (Q1 ?_))));clear hK K
  refine Qr (α:=Nat) (fun i=>i≤k∧(k<o.length→∀j,j<i→conB (o.getD j rs0) (o.getD k rs0)=false))
    (fun i=>[(2, .own 0),(3, .own 1),(5, .ct (rssC o)),(6, .ct (intC k)),(7, .ct (intC i))]) (fun _=>[(1, .box 82 (ikCs ⟨0,0,0⟩)),(0, .box 82 (ikCs ⟨0,0,0⟩))]) (fun i=>k - i) 0 ⟨Nat.zero_le _,fun _ j hj=>by omega⟩ (by exact Qu J ⟨rfl,rfl,rfl,rfl,rfl,trivial⟩) ?_
  intro i ⟨hi,hq⟩
  try dsimp only
  refine Qy (Qy (Qx fun K hK=> ?_));refine Qq J J J (Qq J J J (Qk ilss J J J J (Qq J J J (Qi 15 (p:=(i:Int)<k) J (fun h=> ?_) (fun h=> ?_)))))
  · refine Qq J J J (Qq J J J (Qf J J sRes.und (List.length_map ..) J (Qk ilss J J J J (Q5 J J J J (Qj (hK _ _ (Qz ?_)))))));clear hK K;refine Q2 J (fun h2=> ?_) (fun h2=> ?_)
    · have hk:k<o.length:=by omega
      rw [if_pos hk,fidx_drop (i:=i) hle hi (hq hk)] at ew;have e1:(i:Int).toNat=i:=Int.toNat_natCast i;have e2:(k:Int).toNat=k:=Int.toNat_natCast k;rw [drop_getD (z:=rs0) (show i<(o.take k).length by rw [List.length_take];omega),take_getD (by omega),List.findIdx?_cons] at ew;have hCo:=Contradict_ok (o.getD i rs0) (o.getD k rs0)
      have hn:conB (o.getD i rs0) (o.getD k rs0)=false→∀j,j<i+1→conB (o.getD j rs0) (o.getD k rs0)=false:=fun h j hj=>by
        rcases Nat.lt_or_ge j i with h3|h3
        · exact hq hk j h3
        · have:j=i:=by omega
          rw [this];exact h
      generalize conB (o.getD i rs0) (o.getD k rs0)=cb at hCo hn ew;have hA:=Identity_ok (o.getD i rs0);have hB:=Identity_ok (o.getD k rs0);refine QK (Qz (Qy (Q1 (Qy ?_))));refine XX mixed 9 (.p 0 (.p 1 (.p 2 (.p 4 (.p 5 (.p 6 (.f 3 (.f 7 (.m 8 .done))))))))) (by kernel_rfl) (fun K hK=> ?_);refine Qq J J J (Qq J J J (Qt J J J sRes (by omega) (rss_at (by omega) (by omega)) J ?_));refine Qq J J J (Qq J J J (Qt J J J sRes (by omega) (rss_at (by omega) (by omega)) J ?_));refine X9 (n:=17) J J J lRes J J (X9 (n:=17) J J J lRes J J ?_);rw [e1,e2];skip;refine QV goContradict hCo J J J J (Qj (hK _ _ (Qz ?_)));clear hK K;refine X6 J (fun h3=> ?_) (fun h3=> ?_)
      · rw [if_pos h3] at ew;simp only [Option.map_some,Nat.zero_add] at ew;refine Qy (XX mixed 10 (.p 0 (.p 1 (.p 2 (.p 5 (.p 6 (.p 7 (.f 3 (.fork 4 (.m 8 (.m 9 (.a 10 (.a 11 (.p 12 .done))))) 8 (.m 4 (.m 9 (.a 10 (.a 11 (.p 12 .done))))))))))))) (by kernel_rfl) (fun K hK=> ?_));refine Qq J J J (Qq J J J (Qt J J J sRes (by omega) (rss_at (by omega) (by omega)) J ?_));refine Qq J J J (Qq J J J (Qt J J J sRes (by omega) (rss_at (by omega) (by omega)) J ?_))
        refine X9 (n:=17) J J J lRes J J ?_
        rw [e1];skip
        refine Ops.fork ?_ ?_
        · refine QV goIdentity hA J J J J (X9 (n:=17) J J J lRes J J ?_);rw [e2];skip
          refine QV goIdentity hB J J J J ?_
          skip;refine Qb 3 J J J J J szID J J (Qb 3 J J J J J szID J J (Qv J J J (Qj (hK _ _ (Qz (Q4 (Qa (QY (QY (Qa (QY ?_)))))))))));clear hK K;refine Q3 [_,_,_] rfl (Qh (n:=3) J J lID J (Qh (n:=3) J J lID J (QQ J QZ))) (by rw [ew];rfl) J
        · refine X9 (n:=17) J J J lRes J J ?_
          rw [e2];skip
          refine QV goIdentity hA J J J J ?_
          skip
          refine QV goIdentity hB J J J J ?_
          skip;refine Qb 3 J J J J J szID J J (Qb 3 J J J J J szID J J (Qv J J J (Qj (hK _ _ (Qz (Q4 (Qa (QY (QY (Qa (QY ?_)))))))))));clear hK K;refine Q3 [_,_,_] rfl (Qh (n:=3) J J lID J (Qh (n:=3) J J lID J (QQ J QZ))) (by rw [ew];rfl) J
      · refine QK (Qz (Qx fun K hK=> ?_));refine Qq J J J (Qk (iadd (by omega) (by omega)) J J J J ?_);refine Qv J J J (Qj (hK _ _ (Q6 ?_)));clear hK K;refine Q9 (i+1) (by omega) ⟨by omega,fun _=>hn h3⟩ (by exact Qu J ⟨rfl,rfl,rfl,rfl,by simp only [Int.natCast_add];rfl,trivial⟩)
    · rw [if_neg (by omega)] at ew;refine Qm (Qz (Qy (Qx fun K hK=> ?_)));refine Qo J bID' J .nil J (Qo J bID' J .nil J (Qb 3 J J J J J szID J J (Qb 3 J J J J J szID J J (Qv J J J (Qj (hK _ _ (Qz (Q4 ?_))))))));clear hK K;refine Q3 [_,_,_] rfl (Qh (n:=3) J J lID J (Qh (n:=3) J J lID J (QQ J QZ))) (by rw [ew];rfl) J
  · have ew:wt=none:=by
      rw [ew];split
      · rename_i hk
        rw [fidx_drop (i:=i) hle hi (hq hk),show i=k by omega,List.drop_of_length_le (by rw [List.length_take];omega)];rfl
      · rfl
    refine Qw J J J (Qw J J J (Qw J J J (Qw J J J (Q8 J J J J (Qj (hK _ _ (Qz (Xw J (Qm (Qz (Qy ?_)))))))))));clear hK K;refine Qx (fun K hK=> ?_);refine Qo J bID' J .nil J (Qo J bID' J .nil J (Qb 3 J J J J J szID J J (Qb 3 J J J J J szID J J (Qv J J J (Qj (hK _ _ (Qz (Q4 ?_))))))));clear hK K;refine Q3 [_,_,_] rfl (Qh (n:=3) J J lID J (Qh (n:=3) J J lID J (QQ J QZ))) (by rw [ew];rfl) J
theorem goConsistent:InGo Tryz.prog 60:=InGo.of Tryz.func60 rfl (by decide)
def consB (l : List Rs) : Bool := (witG (sd cmpR (l.filter okR))).isNone
theorem Consistent_ok(l:List Rs)(hl:l.length≤10000):Ok Tryz.prog 60 [rssC l] (boolC (consB l)):=by
  have hW:=Witness_ok l hl;have e0:consB l=(witG (sd cmpR (l.filter okR))).isNone:=rfl
  have hw:∃i j:Ik,witC (sd cmpR (l.filter okR))=[ikC i,ikC j,boolC (!consB l)]:=by
    rw [e0];unfold witC
    cases witG (sd cmpR (l.filter okR)) <;>exact ⟨_,_,rfl⟩
  obtain ⟨a,b,hw⟩:=hw;rw [hw] at hW;generalize consB l=c at hW ⊢
  refine Ok.enter Tryz.func60 J _ Tryz.ntmps60 J ?_
  intro S w;refine Qy (Qx fun K hK=> ?_);refine Qv J J J (Qj (hK _ _ (Qz (Qy ?_))));clear hK K;refine Qx (fun K hK=> ?_);refine Qq J J J (QV goWitness hW J J J J (Qq J J J (Q0 J J J J (Q0 J J J J (Q0 J J J J (Qg 0 J J zvID J J J (Qg 1 J J zvID J J J (Qb 3 J J J J J szID J J (Qb 3 J J J J J szID J J (Qv J J J (Qj (hK _ _ (Qz (Qy ?_))))))))))))));clear hK K;refine Qx (fun K hK=> ?_);refine Qq J J J (Xx J J J (Qv J J J (Qj (hK _ _ (Qz (Q4 ?_))))));clear hK K;refine Q3 [_] rfl (QQ J QZ) (by rw [Bool.not_not];rfl) J
end Go.Proofs.YtojkdfilabmafaaGreat
namespace Go.Proofs.YtojkdfilabmafaaGreat
open Go.Own Go.Limbs
def chkF (l : List Rs) : Int := if (l.any fun r => !okR r) = true then 1 else if 512 < ((sd cmpR (l.filter okR)).length : Int) then 5 else if consB l = true then 0 else 30
def crsF (l : List Rs) (w : Wr) (b : Bool) : List Rs := (sd cmpR (l.filter okR)).filter fun r => decide (w ∈ wayF l r) && (r.an == b)
structure Cn where
  wr : Wr
  se : Int
  lo : Int
  hi : Int
deriving DecidableEq
def cn0 : Cn := ⟨(0, 0), 0, 0, 0⟩
def cntF (l : List Rs) (w : Wr) (b : Int) : Cn × Int :=
  if b < 0 ∨ 1048576 < b then (cn0, 1)
  else if chkF l ≠ 0 then (cn0, chkF l)
  else if (crsF l w true).length + (crsF l w false).length = 0 then (cn0, 8)
  else (⟨w, ((crsF l w true).length : Int) + (crsF l w false).length, max 0 ((crsF l w false).length - b), (crsF l w false).length⟩, 0)
def adN (t : Int) : Fin 4294967296 := ⟨t.toNat % 4294967296, Nat.mod_lt _ (by decide)⟩
theorem adN_val{t:Int}(h:0≤t)(h2:t<4294967296):((adN t).val:Int)=t:=by unfold adN;simp only;omega
def chF : Nat → Int → List (Fin 4294967296)
  | 0, _ => []
  | c + 1, t => adN t :: chF c (t + 1)
structure Chain (n : Nat) (t0 : Tk) (l : List Rs) : Prop where
  up : Up cmpR l
  ok : ∀ r ∈ l, okR r = true ∧ r.db = false ∧ r.fl = 0 ∧ trOf r = t0 ∧ 1 ≤ r.tt ∧ r.tt ≤ n ∧ (r.an = true → r.ki = 1 ∧ r.fr = adN r.tt)
  all : ∀ t : Int, 1 ≤ t → t ≤ n → ∃ r ∈ l, r.an = true ∧ r.tt = t
variable {n : Nat} {t0 : Tk} {l : List Rs}
theorem endF_zero:∀(l:List Rs) (e:Int),(∀r∈l,fiR r=false)→l.foldl endS e=e
  | [],_,_=>rfl
  |r::l,e,h=>by
    have h1:endS e r=e:=by unfold endS;rw [if_neg (by rw [h r (List.mem_cons_self ..)];simp)]
    rw [List.foldl_cons,h1]
    exact endF_zero l e fun x hx=>h x (List.mem_cons_of_mem _ hx)
abbrev stV (m : AdM × StM) (t : Int) : Int := (look1 m.2 (0, t)).getD 0
def invM (m : AdM × StM) : Prop := ∀ t : Int, stV m t ≤ 1 ∨ (stV m t = 2 ∧ look1 m.1 (0, t) = some (adN t))
theorem look_chain:∀(q:List Rs) (m:AdM × StM),(∀r∈q,usR r=true∧r.fl=0∧(r.an=true→r.fr=adN r.tt))→invM m→
    invM (q.foldl (lookS 0) m)∧∀t,(stV m t=2∨∃r∈q,r.an=true∧r.tt=t)→stV (q.foldl (lookS 0) m) t=2
  | [],m,_,hm=>⟨hm,fun t h=>h.elim id fun ⟨_,h,_⟩=>by cases h⟩
  |r::q,m,hq,hm=>by
    obtain ⟨h1,h2,h3⟩:=hq r (List.mem_cons_self ..)
    have key:invM (lookS 0 m r)∧∀t,(stV m t=2∨(r.an=true∧r.tt=t))→stV (lookS 0 m r) t=2:=by
      unfold lookS;rw [if_neg (by rw [h1];simp),h2]
      cases ha:r.an with
      |false=>
        rw [if_pos J];refine ⟨fun t=> ?_,fun t h=> ?_⟩
        · simp only [stV,look1_ins];have:=hm t;by_cases e:t=r.tt
          · subst e;rw [if_pos J];simp only [Option.getD_some];unfold stV at this;rcases this with h|⟨h,h'⟩
            · left;omega
            · right;exact ⟨by omega,h'⟩
          · rw [if_neg (by intro h;injection h with _ h;exact e h)];exact this
        · simp only [stV,look1_ins];rcases h with h|⟨h,_⟩
          · by_cases e:t=r.tt
            · subst e;rw [if_pos J];simp only [Option.getD_some];unfold stV at h;omega
            · rw [if_neg (by intro h;injection h with _ h;exact e h)];exact h
          · cases h
      |true=>
        rw [if_neg (by decide)];have h4:=h3 ha;have hr:=hm r.tt;unfold stV at hr;by_cases hs:(look1 m.2 (0,r.tt)).getD 0≤1
        · rw [if_pos hs];refine ⟨fun t=> ?_,fun t h=> ?_⟩
          · simp only [stV,look1_ins];by_cases e:t=r.tt
            · subst e;rw [if_pos J,if_pos J,h4];right;exact ⟨rfl,rfl⟩
            · rw [if_neg (by intro h;injection h with _ h;exact e h),if_neg (by intro h;injection h with _ h;exact e h)];exact hm t
          · simp only [stV,look1_ins];by_cases e:t=r.tt
            · subst e;rw [if_pos rfl];rfl
            · rw [if_neg (by intro h;injection h with _ h;exact e h)];rcases h with h|⟨_,h⟩
              · exact h
              · exact absurd h.symm e
        · rw [if_neg hs];rcases hr with hr|⟨hr,hr'⟩
          · exact absurd hr hs
          · rw [if_neg (by rw [hr',h4];simp)];refine ⟨hm,fun t h=> ?_⟩;rcases h with h|⟨_,h⟩
            · exact h
            · subst h;exact hr
    obtain ⟨k1,k2⟩:=key;obtain ⟨i1,i2⟩:=look_chain q (lookS 0 m r) (fun x hx=>hq x (List.mem_cons_of_mem _ hx)) k1;refine ⟨i1,fun t h=>i2 t ?_⟩;rcases h with h|⟨x,hx,h⟩
    · exact .inl (k2 t (.inl h))
    · rcases List.mem_cons.1 hx with rfl|hx
      · exact .inl (k2 t (.inr h))
      · exact .inr ⟨x,hx,h⟩
theorem Chain.us(h:Chain n t0 l){r:Rs}(hr:r∈l):usR r=true:=by
  obtain ⟨h1,h2,_⟩:=h.ok r hr;unfold usR;rw [h1,h2];rfl
theorem Chain.fi(h:Chain n t0 l):∀r∈l,fiR r=false:=fun r hr=>by
  obtain ⟨_,_,_,_,_,_,h3⟩:=h.ok r hr
  unfold fiR
  cases ha:r.an with
  |false=>rfl
  |true=>rw [(h3 ha).1];rfl
theorem Chain.look(h:Chain n t0 l):lookG l=l.foldl (lookS 0) ([],[]):=by
  have h1:endF l=0:=endF_zero l 0 h.fi;unfold lookG;rw [h1]
theorem pathG_chain{m:AdM × StM}(h1:∀t:Int,1≤t→t≤n→stV m t=2∧look1 m.1 (0,t)=some (adN t))(h2:hasS m.2 0 (n+1)=false):
    ∀(c k:Nat) (t:Int),1≤t→t+c=n+1→c<k→pathG m 0 k t=chF c t
  |0,k+1,t,_,he,_=>by
    unfold pathG
    have:t=(n:Int)+1:=by omega
    rw [this,h2];rfl
  |c+1,k+1,t,ht,he,hk=>by
    obtain ⟨a1,a2⟩:=h1 t ht (by omega)
    have:hasS m.2 0 t=true:=by unfold hasS;unfold stV at a1;rw [a1];rfl
    unfold pathG chF
    rw [if_pos this,a2,pathG_chain h1 h2 c k (t+1) (by omega) (by omega) (by omega)]
    rfl
  |_,0,_,_,_,h=>by omega
theorem Chain.path(h:Chain n t0 l)(hn:n<256):pathF l 0=chF n 1:=by
  unfold pathF;obtain ⟨i1,i2⟩:=look_chain l ([],[]) (fun r hr=>⟨h.us hr,(h.ok r hr).2.2.1,fun ha=>((h.ok r hr).2.2.2.2.2.2 ha).2⟩) (fun t=> .inl (by show (0:Int)≤1;decide));rw [←h.look] at i1 i2
  refine pathG_chain (n:=n) (fun t h1 h2=> ?_) ?_ n 256 1 (by decide) (by omega) hn
  · have e:=i2 t (.inr (h.all t h1 h2));refine ⟨e,?_⟩;rcases i1 t with h3|h3
    · rw [e] at h3;exact absurd h3 (by decide)
    · exact h3.2
  · cases hb:hasS (lookG l).2 0 (n+1) with
    |false=>rfl
    |true=>
      unfold hasS at hb
      cases e:look1 (lookG l).2 (0,(n:Int)+1) with
      |none=>rw [e] at hb;simp at hb
      |some v=>
        obtain ⟨_,r,hr,_,hs⟩:=lookG_keys l _ _ e
        injection hs with _ hs
        have:=(h.ok r hr).2.2.2.2.2.1;omega
theorem Chain.sd(h:Chain n t0 l):sd cmpR (l.filter okR)=l:=by
  have:l.filter okR=l:=List.filter_eq_self.2 fun r hr=>(h.ok r hr).1
  rw [this];exact sd_eq ordR h.up
def wk (k : Int) : Wr := (adN (k - 1), adN k)
theorem clash_chain:∀(q:List Rs) (m:SeenM),(∀r∈q,r.an=true→r.fr=adN r.tt)→(∀s v,look1 m s=some v→v=adN s.2.2)→clashG m q=q.length
  | [],_,_,_=>rfl
  |r::q,m,hq,hm=>by
    have ih:=fun m' =>clash_chain q m' fun x hx=>hq x (List.mem_cons_of_mem _ hx)
    unfold clashG
    rw [List.length_cons]
    by_cases hp:plB r=false
    · rw [if_pos hp,ih m hm]
    · rw [if_neg hp]
      have ha:r.an=true:=by
        unfold plB at hp
        cases h:r.an with
        |true=>rfl
        |false=>rw [h] at hp;exact absurd J hp
      have hr:=hq r (List.mem_cons_self ..) ha;rw [if_neg,ih]
      · intro s v hs;rw [look1_ins] at hs;split at hs
        · rename_i e;subst e;injection hs with hs;rw [←hs];exact hr
        · exact hm s v hs
      · rintro ⟨h1,h2⟩
        obtain ⟨v,hv⟩:=Option.isSome_iff_exists.1 h1;rw [hv] at h2;exact h2 (by rw [hr];exact hm _ v hv)
theorem Chain.cons(h:Chain n t0 l):consB l=true:=by
  unfold consB witG;rw [h.sd,clash_chain l [] (fun r hr ha=>((h.ok r hr).2.2.2.2.2.2 ha).2) (fun _ _ h=>by cases h)];simp
theorem Chain.chk(h:Chain n t0 l)(hl:l.length≤512):chkF l=0:=by
  unfold chkF;rw [if_neg,h.sd,if_neg (by omega),if_pos h.cons];intro h';obtain ⟨r,hr,h1⟩:=List.any_eq_true.1 h';rw [(h.ok r hr).1] at h1;cases h1
def mkX (o k t w : Int) : Rs := ⟨0, 0, k, 10 * k, 9, 17, 0, t, decide (w = 0), false, 10 * k + o, if w = 0 then adN t else 0, if w = 0 then 1 else 0, 0, 0, 0, 0⟩
def xF (o : Int) : Int → List (Int × Int) → List Rs
  | _, [] => []
  | i, p :: d => mkX o i p.1 p.2 :: xF o (i + 1) d
theorem cmpL_lt{x y:Int}{xs ys:List Int}(h:x<y):cmpL (x::xs) (y::ys)<0:=by
  have h1:cmp3 x y= -1:=by unfold cmp3;rw [if_pos h]
  have h2:cmpL (x::xs) (y::ys)=if cmp3 x y≠0 then cmp3 x y else cmpL xs ys:=rfl
  rw [h2,if_pos (by rw [h1];decide),h1];decide
def x0T : Tk := ⟨0, 9, 17⟩
end Go.Proofs.YtojkdfilabmafaaGreat
namespace Go.Proofs.YtojkdfilabmafaaGreat
open Go.Own Go.Limbs Go.Shelf
open Go.Sort hiding Ok
attribute [local irreducible] St Ops Go.Own.Fin Ok OkB OkN OkT OkL OkF OkM
def wsA (l : List Me) : List Wr := l.flatMap fun x => x.2
def vrF (l : List Rs) : List Wr := sd cmpW (wsA (msF l))
def vrO (l : List Rs) : List Wr × Int := if ¬ chkF l = 0 then ([], chkF l) else if 16 < ((vrF l).length : Int) then ([], 5) else (vrF l, 0)
theorem me_wires(l:List Rs):∀x∈msF l,x.2.length≤256:=fun x hx=>by
  obtain ⟨r,hr,rfl⟩:=List.mem_map.1 hx
  show (wsO _).1.length≤256
  unfold wsO
  have hp:(paF l r).length≤256:=pathF_len _ _
  split
  · rw [wsG_len,List.length_take];omega
  · exact Nat.zero_le _
theorem wsA_len:∀(l:List Me),(∀x∈l,x.2.length≤256)→(wsA l).length≤l.length*256
  | [],_=>Nat.le_refl _
  |x::l,h=>by
    have h1:=wsA_len l fun y hy=>h y (List.mem_cons_of_mem _ hy)
    have h2:=h x (List.mem_cons_self ..)
    have e:wsA (x::l)=x.2++wsA l:=by simp [wsA]
    rw [e,List.length_append,List.length_cons,Nat.succ_mul]
    omega
theorem lWrs1:Ld1 Tryz.prog 25:=Ld1.of _ Tryz.underlying25 rfl
theorem wrs_ones(l:List Wr):ones (wrs l)=true:=el_ones (fun _=>rfl) l
theorem goVar1:InGo Tryz.prog 57:=InGo.of Tryz.func57 rfl (by decide)
theorem Var1_ok(r:Rs):Ok Tryz.prog 57 [rsC r] (boolC (!okR r)):=by
  refine Ok.enter Tryz.func57 rfl _ Tryz.ntmps57 rfl ?_
  intro S w
  (refine Qy (Qx fun K hK=> ?_);refine XQ 0 rfl rfl rfl rfl rfl rfl rfl ?_;refine Qv rfl rfl rfl ?_;refine Qj (hK _ _ (Qz (Qy ?_)));clear hK K;refine Qx (fun K hK=> ?_);refine Qe (n:=17) rfl rfl rfl rfl rfl (by with_reducible exact lRes) rfl ?_)
  refine QV goValidR (ValidR_ok r) rfl rfl rfl rfl ?_
  (refine Xx rfl rfl rfl ?_;refine Qv rfl rfl rfl ?_;refine Qj (hK _ _ (Qz (Q4 ?_)));clear hK K)
  refine Q3 [_] rfl (QQ rfl QZ) rfl rfl
theorem goVariables:InGo Tryz.prog 27:=InGo.of Tryz.func27 rfl (by decide)
set_option maxHeartbeats 8000000 in
theorem Variables_ok(l:List Rs)(hl:l.length≤10000):Ok Tryz.prog 27 [rssC l] (.fr (tupT [wrsC (vrO l).1,intC (vrO l).2])):=by
  have hC:=ContainsFunc_res l _ (fun r=> !okR r) goVar1 (fun x _=>Var1_ok x) (by omega)
  have hO:=Order_ok l hl
  have hN:=Consistent_ok l hl
  have hM:=measures_ok l hl
  have e:vrO l=if ¬chkF l=0 then ([],chkF l) else if 16<((vrF l).length:Int) then ([],5) else (vrF l,0):=rfl
  have e1:chkF l=if (l.any fun r=> !okR r)=true then 1 else if 512<((sd cmpR (l.filter okR)).length:Int) then 5 else if consB l=true then 0 else 30:=rfl
  have e2:vrF l=dd ((wsA (msF l)).mergeSort fun x y=> !(ltOf cmpW) y x):=rfl
  have hol:(sd cmpR (l.filter okR)).length≤10000:=by
    have:=sd_len cmpR (l.filter okR)
    have:=List.length_filter_le okR l
    omega
  have hml:(msF l).length≤10000:=by
    unfold msF
    rw [List.length_map]
    exact Nat.le_trans (List.length_filter_le _ _) hol
  have hmw:=me_wires l
  generalize vrO l=out at e ⊢
  generalize vrF l=vr at e e2
  generalize chkF l=c at e e1
  generalize (l.any fun r=> !okR r)=b1 at hC e1
  generalize sd cmpR (l.filter okR)=o at hO e1 hol
  generalize consB l=b3 at hN e1
  generalize msF l=ms at hM e2 hml hmw
  refine Ok.enter Tryz.func27 rfl _ Tryz.ntmps27 rfl ?_
  intro S w
  (refine Qy (Qx fun K hK=> ?_);refine Qv rfl rfl rfl ?_;refine Qv rfl rfl rfl ?_;refine Qj (hK _ _ (Qz (Qy (Q1 (Qy ?_)))));clear hK K;refine Qx (fun K hK=> ?_);refine Qq rfl rfl rfl ?_)
  refine QV goContainsFunc_res hC rfl rfl rfl rfl ?_
  (refine Qv rfl rfl rfl ?_;refine Qj (hK _ _ (Qz ?_));clear hK K)
  refine X6 rfl (fun h=> ?_) (fun h=> ?_)
  · rw [if_pos h] at e1
    rw [if_pos (by rw [e1];decide),e1] at e
    (refine Qy (Qx fun K hK=> ?_);refine Qv rfl rfl rfl ?_;refine Qv rfl rfl rfl ?_;refine Qj (hK _ _ (Qz (Q4 (Qa (QY ?_)))));clear hK K)
    refine Q3 [_,_] rfl (Xd Yc (QQ rfl (QQ rfl QZ))) (by rw [e];rfl) rfl
  rw [if_neg (by rw [h];decide)] at e1
  (refine Qy (Qx fun K hK=> ?_);refine Qq rfl rfl rfl ?_)
  refine Zo 3 goOrder hO rfl rfl rfl rfl rfl rfl ?_
  refine ZY 3 _ rfl (rss_frozen _ _) noBor_sub ?_
  (refine Qf rfl rfl (by with_reducible exact sRes.und) (List.length_map ..) rfl ?_;refine Qk igtr rfl rfl rfl rfl ?_;refine Qv rfl rfl rfl ?_;refine Qj (hK _ _ (Qz ?_));clear hK K)
  refine Q2 rfl (fun h2=> ?_) (fun h2=> ?_)
  · rw [if_pos h2] at e1
    rw [if_pos (by rw [e1];decide),e1] at e
    (refine Qy (Qx fun K hK=> ?_);refine Qv rfl rfl rfl ?_;refine Qv rfl rfl rfl ?_;refine Qj (hK _ _ (Qz (Q4 (Qa (QY ?_)))));clear hK K)
    refine Q3 [_,_] rfl (Xd Yc (QQ rfl (QQ rfl QZ))) (by rw [e];rfl) rfl
  rw [if_neg h2] at e1
  (refine Qy (Qx fun K hK=> ?_);refine Qq rfl rfl rfl ?_)
  refine QV goConsistent hN rfl rfl rfl rfl ?_
  (refine Xx rfl rfl rfl ?_;refine Qv rfl rfl rfl ?_;refine Qj (hK _ _ (Qz ?_));clear hK K)
  refine X6 rfl (fun h3=> ?_) (fun h3=> ?_)
  · rw [if_neg (by simpa using h3)] at e1
    rw [if_pos (by rw [e1];decide),e1] at e
    (refine Qy (Qx fun K hK=> ?_);refine Qv rfl rfl rfl ?_;refine Qv rfl rfl rfl ?_;refine Qj (hK _ _ (Qz (Q4 (Qa (QY ?_)))));clear hK K)
    refine Q3 [_,_] rfl (Xd Yc (QQ rfl (QQ rfl QZ))) (by rw [e];rfl) rfl
  rw [if_pos (by simpa using h3)] at e1
  rw [if_neg (fun h=>h e1)] at e
  (refine QK (Qz (Qy (Qx fun K hK=> ?_)));refine Qv rfl rfl rfl ?_;refine Qj (hK _ _ (Qz (Qy (Qy ?_))));clear hK K;refine Qx (fun K hK=> ?_);refine Qq rfl rfl rfl ?_)
  refine QV gomeasures hM rfl rfl rfl rfl ?_
  refine Qf rfl rfl (by with_reducible exact sMes.und) (List.length_map ..) rfl ?_
  (refine Qq rfl rfl rfl ?_;refine Qj (hK _ _ (Qz (Q1 ?_)));clear hK K)
  refine Yj 4 0 37 2 rfl rfl rfl ?_
  refine Qr (α:=Nat) (fun i=>i≤ms.length)
    (fun i=>[(4, .own 0),(20, .ct (mesC ms)),(21, .ct (intC ms.length)),(22, .ct (intC i))])
    (fun i=>[(0, .row 37 2 (wrs (wsA (ms.take i))))]) (fun i=>ms.length - i) 0 (Nat.zero_le _) (by exact Qu rfl ⟨rfl,rfl,rfl,rfl,trivial⟩) ?_
  intro i hi
  try dsimp only at hi ⊢
  (refine Qy (Qx fun K hK=> ?_);refine Qk ilss rfl rfl rfl rfl ?_;refine Qj (hK _ _ (Qz (Qy ?_)));clear hK K)
  refine Q2 rfl (fun h4=> ?_) (fun h4=> ?_)
  · have e4:(i:Int).toNat=i:=Int.toNat_natCast i
    have hs:wsA (ms.take (i+1))=wsA (ms.take i)++(ms.getD i me0).2:=by
      unfold wsA
      rw [List.take_add_one,List.getElem?_eq_getElem (by omega),List.getD_eq_getElem?_getD,List.getElem?_eq_getElem (by omega),List.flatMap_append]
      simp
    have hwl:=wsA_len (ms.take i) fun x hx=>hmw x (List.mem_of_mem_take hx)
    rw [List.length_take] at hwl
    have hwl:(wsA (ms.take i)).length≤2560000:=by omega
    have hx2:=hmw (ms.getD i me0) (by rw [List.getD_eq_getElem?_getD,List.getElem?_eq_getElem (by omega)];exact List.getElem_mem _)
    (refine QK (Qz (Qy (Q1 (Qy (Qx fun K hK=> ?_))))))
    refine Qt rfl rfl rfl (by with_reducible exact sMes) (by omega) (mes_at (by omega) (by omega)) rfl ?_
    rw [e4]
    generalize ms.getD i me0=x at hs hx2
    generalize wsA (ms.take i)=q at hs hwl ⊢
    obtain ⟨r,ws⟩:=x
    dsimp only at hs hx2
    refine X9 (n:=18) rfl rfl rfl (by with_reducible exact lMe) rfl rfl ?_
    refine Qg 1 rfl rfl (by with_reducible exact zvMe) rfl rfl rfl ?_
    refine Qb 18 rfl rfl rfl rfl rfl (by with_reducible exact szMe) rfl rfl ?_
    (refine Qj (hK _ _ (Qz ?_));clear hK K;refine Qx (fun K hK=> ?_);refine Qq rfl rfl rfl ?_)
    refine QJ rfl rfl rfl (by with_reducible exact fMe1) rfl ?_
    refine QX rfl rfl rfl rfl rfl (by with_reducible exact lWrs1) rfl ?_
    have hx3:(ws.map wrCs).length≤256:=by rw [List.length_map];exact hx2
    refine Ops.append q.length (wrs (q++ws)) rfl rfl rfl rfl (by with_reducible exact sWrs) (YW q) (wrs_ones ws) (by show (q.length+(ws.map wrCs).length)*8≤_;omega) (by show q.length+(ws.map wrCs).length≤_;omega) (wrs_app q ws) rfl ?_
    (refine Qv rfl rfl rfl ?_;refine Qj (hK _ _ (Qz ?_));clear hK K;refine Qx (fun K hK=> ?_);refine Qk (iadd (by omega) (by omega)) rfl rfl rfl rfl ?_;refine Qq rfl rfl rfl ?_;refine Qj (hK _ _ (Q6 ?_));clear hK K)
    refine Xj 1 ?_
    refine Q9 (i+1) (by omega) (by omega) (by rw [hs];exact Qu rfl ⟨rfl,rfl,rfl,by simp only [Int.natCast_add];rfl,trivial⟩)
  have hi' :i=ms.length:=by omega
  have hwl:=wsA_len ms hmw
  have hwl:(wsA ms).length≤2560000:=by omega
  rw [hi',List.take_length]
  generalize wsA ms=q at e2 hwl ⊢
  have hvl:vr.length≤2560000:=by rw [e2];exact Nat.le_trans (dd_len _) (by rw [List.length_mergeSort];omega)
  (refine Qm (Qz (Qy (Qx fun K hK=> ?_)));refine Qq rfl rfl rfl ?_)
  refine Ops.callL goSortW (SortD_ok q (by omega)) rfl rfl rfl rfl rfl ?_
  (refine Qj (hK _ _ (Qz (Qy ?_)));clear hK K;refine Qx (fun K hK=> ?_);refine Qq rfl rfl rfl ?_)
  refine Ops.callT goCompact_Wr (Compact_Wr_ok (q.mergeSort fun x y=> !(ltOf cmpW) y x) (by rw [List.length_mergeSort];omega)) rfl rfl rfl rfl rfl ?_
  rw [←e2]
  (refine Qv rfl rfl rfl ?_;refine Qj (hK _ _ (Qz (Qy (Qy ?_))));clear hK K;refine Qx (fun K hK=> ?_);refine Qq rfl rfl rfl ?_)
  refine YK vr.length rfl rfl rfl (by decide) (YW vr) (by with_reducible exact sWrs.und) rfl ?_
  (refine Qk igtr rfl rfl rfl rfl ?_;refine Qj (hK _ _ (Qz ?_));clear hK K)
  refine Q2 rfl (fun h5=> ?_) (fun h5=> ?_)
  · rw [if_pos h5] at e
    (refine Qy (Qx fun K hK=> ?_);refine Qv rfl rfl rfl ?_;refine Qv rfl rfl rfl ?_;refine Qj (hK _ _ (Qz (Q4 (QY ?_))));clear hK K)
    refine Q3 [_,_] rfl (Xd Yc (QQ rfl (QQ rfl QZ))) (by rw [e];rfl) rfl
  rw [if_neg h5] at e
  (refine QK (Qz (Qy (Qx fun K hK=> ?_)));refine Qq rfl rfl rfl ?_;refine Qv rfl rfl rfl ?_;refine Qv rfl rfl rfl ?_;refine Qj (hK _ _ (Qz (Q4 ?_)));clear hK K)
  refine Y6 0 _ rfl (wrs_frozen _ _) noBor_sub ?_
  refine Q3 [_,_] rfl (QQ rfl (QQ rfl QZ)) (by rw [e];rfl) rfl
end Go.Proofs.YtojkdfilabmafaaGreat
namespace Go.Proofs.YtojkdfilabmafaaGreat
open Go.Own Go.Limbs
def rpY (n t T : Int) : Rs := ⟨0, 0, n, 100 * n, 9, 17, 0, t, true, false, 100 * n + T, adN t, 1, 0, 0, 0, 0⟩
def yF : Int → List Int → List Rs
  | _, [] => []
  | i, T :: d => rpY i (i + 1) T :: yF (i + 1) d
theorem yF_len:∀(d:List Int) (i:Int),(yF i d).length=d.length
  | [],_=>rfl
  |_::d,i=>by show (yF (i+1) d).length+1=_;rw [yF_len d];rfl
theorem yF_mem{r:Rs}:∀{d:List Int} {i:Int},r∈yF i d→∃k:Nat,k<d.length∧r=rpY (i+k) (i+k+1) (d.getD k 0)
  | [],_,h=>by cases h
  |T::d,i,h=>by
    rcases List.mem_cons.1 h with rfl|h
    · exact ⟨0,Nat.succ_pos _,by rw [Int.natCast_zero,Int.add_zero];rfl⟩
    · obtain ⟨k,h1,h2⟩:=yF_mem h
      refine ⟨k+1,Nat.succ_lt_succ h1,?_⟩
      rw [h2,show i+1+(k:Int)=i+((k+1:Nat):Int) by omega];rfl
theorem yF_has:∀{d:List Int} {i:Int} {k:Nat},k<d.length→rpY (i+k) (i+k+1) (d.getD k 0)∈yF i d
  | [],_,_,h=>by cases h
  |T::d,i,0,_=>by rw [Int.natCast_zero,Int.add_zero];exact List.mem_cons_self ..
  |T::d,i,k+1,h=>by
    have:=yF_has (d:=d) (i:=i+1) (k:=k) (Nat.lt_of_succ_lt_succ h)
    rw [show i+1+(k:Int)=i+((k+1:Nat):Int) by omega] at this
    exact List.mem_cons_of_mem _ this
theorem yF_up:∀(d:List Int) (i:Int),Up cmpR (yF i d)
  | [],_=>List.Pairwise.nil
  |T::d,i=>by
    refine List.pairwise_cons.2 ⟨fun r hr=> ?_,yF_up d (i+1)⟩
    obtain ⟨k,_,rfl⟩:=yF_mem hr
    exact cmpL_lt (show 100*i<100*(i+1+k) by omega)
theorem yF_chain{d:List Int}(hd:d.length≤200)(hT:∀T∈d,0≤T∧T≤1000000):Chain d.length x0T (yF 0 d) where
  up:=yF_up d 0
  ok r hr:=by
    obtain ⟨k,hk,rfl⟩:=yF_mem hr
    have hm:d.getD k 0∈d:=by rw [List.getD_eq_getElem?_getD,List.getElem?_eq_getElem hk];exact List.getElem_mem hk
    have hb:=hT _ hm
    generalize d.getD k 0=T at hb
    have hv:=adN_val (t:=0+(k:Int)+1) (by omega) (by omega)
    refine ⟨?_,rfl,rfl,rfl,by show 1≤0+(k:Int)+1;omega,by show 0+(k:Int)+1≤d.length;omega,fun _=>⟨rfl,rfl⟩⟩
    generalize hz:0+(k:Int)=z at hv
    have hP1:¬P1 (rpY z (z+1) T):=by unfold P1 rpY;simp only;omega
    have hP2:¬P2 (rpY z (z+1) T):=by unfold P2 rpY;simp only;omega
    have hP3:¬P3 (rpY z (z+1) T):=by unfold P3 rpY;simp
    have hP4:¬P4 (rpY z (z+1) T):=by unfold P4 rpY;simp only;omega
    have hck:ckE (rpY z (z+1) T)=0:=by unfold ckE;rw [if_neg hP1,if_neg hP2,if_neg hP3,if_neg hP4]
    have hf:(rpY z (z+1) T).fr.val≠0:=by show (adN (z+1)).val≠0;omega
    unfold okR
    rw [hck,decide_eq_true hf]
    simp [rpY]
  all t ht1 ht2:=by
    have:=yF_has (d:=d) (i:=0) (k:=(t - 1).toNat) (by omega)
    rw [show (0:Int)+((t - 1).toNat:Int)=t - 1 by omega] at this
    exact ⟨_,this,rfl,by show t - 1+1=t;omega⟩
theorem chF_take:∀(c n:Nat) (s:Int),c≤n→(chF n s).take c=chF c s
  |0,_,_,_=>by simp [chF]
  |c+1,n+1,s,h=>by show adN s::(chF n (s+1)).take c=_;rw [chF_take c n _ (by omega)];rfl
theorem chF_len:∀(c:Nat) (s:Int),(chF c s).length=c
  |0,_=>rfl
  |c+1,s=>by show (chF c (s+1)).length+1=_;rw [chF_len]
theorem chF_getD:∀(c:Nat) (s:Int) (i:Nat),i<c→(chF c s).getD i 0=adN (s+i)
  |c+1,s,0,_=>by show adN s=_;rw [Int.natCast_zero,Int.add_zero]
  |c+1,s,i+1,h=>by
    show (chF c (s+1)).getD i 0=_
    rw [chF_getD c _ i (by omega),show s+1+(i:Int)=s+((i+1:Nat):Int) by omega]
theorem chF_all:∀(c:Nat) (s:Int),1≤s→s+c≤4294967296→(chF c s).all (fun a=>decide (a≠0))=true
  |0,_,_,_=>rfl
  |c+1,s,h1,h2=>by
    have:=adN_val (t:=s) (by omega) (by omega)
    have hd:decide (adN s≠0)=true:=decide_eq_true (fun h=>by rw [h] at this;have:(0:Int)=s:=this;omega)
    rw [show chF (c+1) s=adN s::chF c (s+1) from rfl,List.all_cons,hd,chF_all c (s+1) (by omega) (by omega)];rfl
def wks (s : Int) (c : Nat) : List Wr := (List.range c).map fun i : Nat => wk (s + (i : Int))
theorem wks_succ(s:Int)(c:Nat):wks s (c+1)=wks s c++ [wk (s+c)]:=by
  unfold wks;rw [List.range_succ,List.map_append];rfl
theorem wsG_chF:∀(c:Nat) (s:Int),wsG (adN (s - 1)) (chF c s)=wks s c
  |0,_=>rfl
  |c+1,s=>by
    have:=wsG_chF c (s+1)
    rw [Int.add_sub_cancel] at this
    show (adN (s - 1),adN s)::wsG (adN s) (chF c (s+1))=_
    rw [this]
    unfold wks
    rw [List.range_succ_eq_map,List.map_cons,List.map_map,Int.natCast_zero,Int.add_zero]
    refine congrArg _ (List.map_congr_left fun i _=> ?_)
    show wk (s+1+i)=wk (s+((i+1:Nat):Int))
    congr 1;omega
theorem wsO_chF(c:Nat)(h:c≤1000):wsO (chF c 1)=(wks 1 c,true):=by
  unfold wsO
  rw [chF_all c 1 (by decide) (by omega),if_pos rfl,←wsG_chF];rfl
section
variable {d : List Int}
theorem yF_pa(hd:d.length≤200)(hT:∀T∈d,0≤T∧T≤1000000){r:Rs}(hr:r∈yF 0 d):paF (yF 0 d) r=chF d.length 1:=by
  have h:=yF_chain hd hT
  obtain ⟨_,_,hf,ht,_⟩:=h.ok r hr
  have e:((yF 0 d).filter fun x=>decide (trOf x=trOf r))=yF 0 d:=List.filter_eq_self.2 fun x hx=>by rw [(h.ok x hx).2.2.2.1,ht];simp
  unfold paF ofF
  rw [h.sd,e,hf,h.path (by omega)]
theorem yF_ms(hd:d.length≤200)(hT:∀T∈d,0≤T∧T≤1000000):msF (yF 0 d)=(yF 0 d).map fun r=>(r,wks 1 r.tt.toNat):=by
  have h:=yF_chain hd hT
  have hw:∀r∈yF 0 d,mesB (yF 0 d) r=true∧meF (yF 0 d) r=(r,wks 1 r.tt.toNat):=fun r hr=>by
    obtain ⟨_,_,hf,ht,ha,hb,hc⟩:=h.ok r hr
    have hu:=h.us hr
    have hp:=yF_pa hd hT hr
    have hl:=chF_len d.length 1
    have han:r.an=true:=by obtain ⟨k,_,rfl⟩:=yF_mem hr;rfl
    have hO:wsO ((chF d.length 1).take r.tt.toNat)=(wks 1 r.tt.toNat,true):=by rw [chF_take _ _ _ (by omega)];exact wsO_chF _ (by omega)
    have hg:(chF d.length 1).getD (r.tt.toNat - 1) 0=r.fr:=by
      rw [chF_getD _ _ _ (by omega),(hc han).2];congr 1;omega
    unfold mesB meF
    rw [hp,hO,hg,han,hu,hl,decide_eq_true hb,decide_eq_true rfl]
    exact ⟨rfl,rfl⟩
  unfold msF
  rw [h.sd,List.filter_eq_self.2 fun r hr=>(hw r hr).1]
  exact List.map_congr_left fun r hr=>(hw r hr).2
theorem cmpW_wk{a b:Int}(h0:1≤a)(h:a<b)(h2:b≤1000):cmpW (wk a) (wk b)<0:=by
  have h1:=adN_val (t:=a - 1) (by omega) (by omega)
  have h3:=adN_val (t:=b - 1) (by omega) (by omega)
  exact cmpL_lt (show ((adN (a - 1)).val:Int)<(adN (b - 1)).val by omega)
theorem wks_up{c:Nat}(h:c≤900):Up cmpW (wks 1 c):=by
  show List.Pairwise _ _
  rw [List.pairwise_iff_getElem]
  intro i j hi hj hij
  have hl:(wks 1 c).length=c:=by unfold wks;rw [List.length_map,List.length_range]
  have e:∀(k:Nat) (hk:k<(wks 1 c).length),(wks 1 c)[k]=wk (1+k):=fun k hk=>by simp [wks]
  rw [e,e]
  exact cmpW_wk (by omega) (by omega) (by omega)
theorem wks_mem{c:Nat}{w:Wr}:w∈wks 1 c↔∃i:Nat,i<c∧w=wk (1+i):=by
  unfold wks
  rw [List.mem_map]
  constructor
  · rintro ⟨i,hi,rfl⟩;exact ⟨i,List.mem_range.1 hi,rfl⟩
  · rintro ⟨i,hi,rfl⟩;exact ⟨i,List.mem_range.2 hi,rfl⟩
theorem yF_vr(hd:d.length≤200)(hT:∀T∈d,0≤T∧T≤1000000):vrF (yF 0 d)=wks 1 d.length:=by
  have h4:=sd_spec ordW (wsA (msF (yF 0 d)))
  refine Up.ext ordW h4.1 (wks_up (by omega)) fun w=> ?_
  show w∈sd cmpW (wsA (msF (yF 0 d)))↔_
  rw [h4.2,yF_ms hd hT,wks_mem]
  unfold wsA
  rw [List.mem_flatMap]
  constructor
  · rintro ⟨m,hm,hw⟩
    obtain ⟨r,hr,rfl⟩:=List.mem_map.1 hm
    obtain ⟨k,hk,rfl⟩:=yF_mem hr
    obtain ⟨i,hi,rfl⟩:=wks_mem.1 hw
    have hi:i<(0+(k:Int)+1).toNat:=hi
    exact ⟨i,by omega,rfl⟩
  · rintro ⟨i,hi,rfl⟩
    refine ⟨_,List.mem_map_of_mem (yF_has (i:=0) hi),wks_mem.2 ⟨i,?_,rfl⟩⟩
    show i<(0+(i:Int)+1).toNat
    omega
theorem yF_vrO(hd:d.length≤16)(hT:∀T∈d,0≤T∧T≤1000000):vrO (yF 0 d)=(wks 1 d.length,0):=by
  have hc:=(yF_chain (by omega) hT).chk (by rw [yF_len];omega)
  have hl:(wks 1 d.length).length=d.length:=by unfold wks;rw [List.length_map,List.length_range]
  unfold vrO
  rw [if_neg (fun h=>h hc),yF_vr (by omega) hT,if_neg (by omega)]
end
end Go.Proofs.YtojkdfilabmafaaGreat
namespace Go.Proofs.YtojkdfilabmafaaGreat
open Go.Own Go.Limbs Go.Det
def cfW (vs ws : List Wr) (f : Int) : List Int := vs.map fun v => f * (ws.count v : Int)
def meR (vs : List Wr) (qu : Int) (m : Me) : List Rw := [⟨cfW vs m.2 1, m.1.bk - m.1.tm⟩, ⟨cfW vs m.2 (-1), qu - (m.1.bk - m.1.tm)⟩]
def rowsD (vs : List Wr) (mo qu : Int) (ms : List Me) : List Rw := (vs.map fun v => ⟨cfW vs [v] 1, mo⟩) ++ ms.flatMap (meR vs qu)
def tiB (mo qu : Int) : Bool := decide (0 ≤ mo ∧ mo ≤ 1073741824 ∧ 0 ≤ qu ∧ qu ≤ 1073741824)
def rwO (l : List Rs) (mo qu : Int) : List Rw × List Ik × Int :=
  if tiB mo qu = false then ([], [], 1) else if ¬ (vrO l).2 = 0 then ([], [], (vrO l).2)
  else if 64 < ((vrO l).1.length : Int) + 2 * (msF l).length then ([], [], 5) else (rowsD (vrO l).1 mo qu (msF l), (msF l).map (fun m => idOf m.1), 0)
def unL (n i : Nat) (f : Int) : List Int := (List.replicate n 0).set i f
theorem unL_getD{n i:Nat}(f:Int)(h:i<n)(j:Nat):(unL n i f).getD j 0=if j=i then f else 0:=by
  unfold unL
  rw [List.getD_eq_getElem?_getD,List.getElem?_set]
  by_cases e:i=j
  · subst e;rw [if_pos rfl,if_pos (by simpa using h),if_pos rfl];rfl
  · rw [if_neg e,if_neg (fun h=>e h.symm)]
    by_cases hj:j<n
    · rw [List.getElem?_replicate,if_pos hj];rfl
    · rw [List.getElem?_replicate,if_neg hj];rfl
theorem rsum_un{n i:Nat}(f:Int)(h:i<n)(X:Nat→Int):rsum n (unL n i f) X=f*X i:=by
  unfold rsum
  rw [Yy (i:=i) h (fun k _ hk=>by rw [unL_getD f h,if_neg hk,Int.zero_mul]),unL_getD f h,if_pos rfl]
end Go.Proofs.YtojkdfilabmafaaGreat
namespace Go.Proofs.YtojkdfilabmafaaGreat
open Go.Own Go.Limbs
theorem cfW_nil(vs:List Wr)(f:Int):cfW vs [] f=List.replicate vs.length 0:=by
  unfold cfW
  refine List.eq_replicate_iff.2 ⟨List.length_map _,fun x hx=> ?_⟩
  obtain ⟨v,_,rfl⟩:=List.mem_map.1 hx
  rw [List.count_nil];exact Int.mul_zero f
theorem cfW_len(vs ws:List Wr)(f:Int):(cfW vs ws f).length=vs.length:=by unfold cfW;rw [List.length_map]
theorem cfW_out{vs:List Wr}{x:Wr}(h:x ∉ vs)(l:List Wr)(f:Int):cfW vs (l++ [x]) f=cfW vs l f:=by
  unfold cfW
  refine List.map_congr_left fun v hv=> ?_
  have hne:(x==v)=false:=by rw [beq_eq_false_iff_ne];exact fun e=>h (e▸hv)
  rw [List.count_append,List.count_singleton,hne];rfl
theorem cfW_get{vs:List Wr}(l:List Wr)(f:Int){k:Nat}(hk:k<vs.length):(cfW vs l f).getD k 0=f*(l.count (vs.getD k wr0):Int):=by
  unfold cfW
  rw [List.getD_eq_getElem?_getD,List.getElem?_map,List.getElem?_eq_getElem hk,List.getD_eq_getElem?_getD,List.getElem?_eq_getElem hk];rfl
theorem cfW_el{vs:List Wr}(l:List Wr)(f:Int){k:Nat}(h:k<(cfW vs l f).length):(cfW vs l f)[k]=f*(l.count (vs.getD k wr0):Int):=by
  have:=cfW_get (vs:=vs) l f (k:=k) (by rw [cfW_len] at h;exact h)
  rw [List.getD_eq_getElem?_getD,List.getElem?_eq_getElem h] at this;exact this
theorem cfW_in{vs:List Wr}(hu:Up cmpW vs){x:Wr}(h:x∈vs)(l:List Wr)(f:Int):(cfW vs l f).set (posD vs x) ((cfW vs l f).getD (posD vs x) 0+f)=cfW vs (l++ [x]) f:=by
  obtain ⟨h1,h2⟩:=(posD_at hu).1 h
  have hun:∀k,k<vs.length→vs.getD k wr0=x→k=posD vs x:=fun k hk e=>by
    have hp:=posD_lt (t:=x) hu hk
    rw [e,ordW.self] at hp
    have hk2:¬k<posD vs x:=fun h=>absurd (hp.2 h) (by decide)
    rcases Nat.lt_or_eq_of_le (Nat.le_of_not_lt hk2) with q|q
    · have h3:=List.pairwise_iff_getElem.1 hu _ _ h1 hk q
      rw [List.getD_eq_getElem?_getD,List.getElem?_eq_getElem h1] at h2
      rw [List.getD_eq_getElem?_getD,List.getElem?_eq_getElem hk] at e
      simp only [Option.getD_some] at h2 e
      rw [h2,e,ordW.self] at h3;exact absurd h3 (by decide)
    · exact q.symm
  refine List.ext_getElem (by rw [List.length_set,cfW_len,cfW_len]) fun k hk1 hk2=> ?_
  have hk:k<vs.length:=by rw [cfW_len] at hk2;exact hk2
  rw [List.getElem_set,cfW_el (l++ [x]) f hk2,List.count_append,List.count_singleton]
  by_cases e:posD vs x=k
  · have hx:vs.getD k wr0=x:=by rw [←e];exact h2
    rw [if_pos e,e,cfW_get l f hk,hx,if_pos (beq_self_eq_true x),Int.natCast_add,Int.mul_add,Int.natCast_one,Int.mul_one]
  · have hne:¬(x==vs.getD k wr0)=true:=fun h3=>e (hun k hk (eq_of_beq h3).symm).symm
    rw [if_neg e,if_neg hne,Nat.add_zero]
    exact cfW_el l f (by rw [cfW_len];exact hk)
theorem cfW_bd(vs l:List Wr){f:Int}(hf:f=1∨f= -1)(hl:l.length≤1000)(k:Nat): -1000≤(cfW vs l f).getD k 0∧(cfW vs l f).getD k 0≤1000:=by
  by_cases hk:k<vs.length
  · rw [cfW_get l f hk]
    have:l.count (vs.getD k wr0)≤1000:=Nat.le_trans List.count_le_length hl
    generalize l.count (vs.getD k wr0)=c at this
    rcases hf with rfl|rfl
    · omega
    · omega
  · rw [List.getD_eq_getElem?_getD,List.getElem?_eq_none (by rw [cfW_len];omega)];exact ⟨by decide,by decide⟩
end Go.Proofs.YtojkdfilabmafaaGreat
namespace Go.Own
theorem ushr1{p:Int}{kk:IntKind}:IBin .shr .u64 p kk 1 (.int .u64 (p/2)):= .of fun P t w=>by
  show (Op.shift .shr .u64 p kk 1).run P w=_
  have e:(Op.shift .shr .u64 p kk 1)=pure (.int .u64 (p.fdiv (2 ^ 1))):=rfl
  rw [e,Int.fdiv_eq_ediv_of_nonneg _ (by decide)]
  rfl
end Go.Own
namespace Go.Proofs.YtojkdfilabmafaaGreat
open Go.Own Go.Limbs
attribute [local irreducible] St Ops Go.Own.Fin Ok OkB OkN OkT OkL OkF OkM
theorem uUintD:Tryz.prog.underlying 165=some (.int .u64):=Tryz.underlying165
theorem goBSearch:InGo Tryz.prog 49:=InGo.of Tryz.func49 rfl (by decide)
set_option maxHeartbeats 8000000 in
theorem BSearch_ok(vs:List Wr)(x:Wr)(hu:Up cmpW vs)(hl:vs.length≤100000):Ok Tryz.prog 49 [wrsC vs,wrC x,cmpDV] (.fr (tupT [intC (posD vs x),boolC (decide (x∈vs))])):=by
  have hlt:=fun h (hh:h<vs.length)=>posD_lt (t:=x) hu hh
  have hat:=posD_at (t:=x) hu
  have hpl:=posD_le vs x
  have hmem:decide (x∈vs)=decide (posD vs x<vs.length∧cmpW (vs.getD (posD vs x) wr0) x=0):=decide_eq_decide.2 (by
    rw [hat];exact and_congr_right fun _=>⟨fun h=>by rw [h];exact ordW.self x,fun h=>ordW.eq0 _ _ h⟩)
  clear hat
  generalize posD vs x=ps at hlt hpl hmem ⊢
  generalize decide (x∈vs)=bm at hmem ⊢
  refine Ok.enter Tryz.func49 rfl _ Tryz.ntmps49 rfl ?_
  intro S w
  (refine Qy (Qx fun K hK=> ?_);refine XQ 0 rfl rfl rfl rfl rfl rfl rfl ?_;refine Qv rfl rfl rfl ?_;refine Qv rfl rfl rfl ?_;refine Qj (hK _ _ (Qz (Qy ?_)));clear hK K;refine Qx (fun K hK=> ?_);refine Qq rfl rfl rfl ?_;refine Qf rfl rfl (by with_reducible first|exact sTks.und|exact sWrs.und|exact sIks.und|exact sAdrs.und) (List.length_map ..) rfl ?_;refine Qv rfl rfl rfl ?_;refine Qj (hK _ _ (Qz (Qy ?_)));clear hK K;refine Qx (fun K hK=> ?_);refine Qq rfl rfl rfl ?_;refine Qv rfl rfl rfl ?_;refine Qv rfl rfl rfl ?_;refine Qj (hK _ _ (Qz (Qy (Q1 ?_))));clear hK K)
  refine Qr (α:=Nat × Nat) (fun q=>q.1≤q.2∧q.2≤vs.length∧q.1≤ps∧ps≤q.2)
    (fun q=>[(0, .ct (wrsC vs)),(2, .ct cmpDV),(4, .own 0),(8, .ct (intC vs.length)),(9, .ct (intC q.1)),(10, .ct (intC q.2))]) (fun _=>[(0, .box 37 (wrCs x))]) (fun q=>q.2 - q.1) (0,vs.length) ⟨Nat.zero_le _,Nat.le_refl _,Nat.zero_le _,hpl⟩ (by exact Qu rfl ⟨rfl,rfl,rfl,rfl,rfl,rfl,trivial⟩) ?_
  rintro ⟨i,j⟩ ⟨hij,hj,h1,h2⟩
  dsimp only at hij hj h1 h2 ⊢
  (refine Qy (Qy (Qx fun K hK=> ?_));refine Qq rfl rfl rfl ?_;refine Qq rfl rfl rfl ?_;refine Qk ilss rfl rfl rfl rfl ?_;refine Qj (hK _ _ (Qz ?_));clear hK K)
  refine Q2 rfl (fun h=> ?_) (fun h=> ?_)
  · have eh:((i:Int)+j)/2=(((i+j)/2:Nat):Int):=by omega
    have hh:i≤(i+j)/2∧(i+j)/2<j:=by omega
    (refine QK (Qz (Q1 (Qy (Qx fun K hK=> ?_))));refine Qq rfl rfl rfl ?_;refine Qq rfl rfl rfl ?_;refine Qk (iadd (by omega) (by omega)) rfl rfl rfl rfl ?_)
    refine Z3 rfl rfl (by with_reducible exact uInt) (by with_reducible exact uUintD) (wrap_u (by omega) (by omega)) rfl ?_
    refine Qk ushr1 rfl rfl rfl rfl ?_
    rw [eh]
    generalize (i+j)/2=k at hh
    refine Z3 rfl rfl (by with_reducible exact uUintD) (by with_reducible exact uInt) (Z0 (by omega) (by omega)) rfl ?_
    clear eh
    have e2:(k:Int).toNat=k:=Int.toNat_natCast k
    have hk:=hlt k (by omega)
    (refine Qv rfl rfl rfl ?_;refine Qj (hK _ _ (Qz (Qy ?_)));clear hK K)
    refine XX (by with_reducible exact mixed) 8 (.p 0 (.p 1 (.p 2 (.p 3 (.f 4 (.f 5 (.m 6 (.p 7 .done)))))))) (by kernel_rfl) (fun K hK=> ?_)
    (refine Qq rfl rfl rfl ?_;refine Qq rfl rfl rfl ?_;refine Qq rfl rfl rfl ?_)
    refine Qt rfl rfl rfl (by with_reducible exact sWrs) (by omega) (wrs_at (by omega) (by omega)) rfl ?_
    rw [e2]
    refine X9 (n:=2) rfl rfl rfl (by with_reducible exact Yk) rfl rfl ?_
    (refine Qe (n:=2) rfl rfl rfl rfl rfl (by with_reducible first|exact lTrav|exact Yk|exact lCs) rfl ?_)
    refine Ops.callF goDcmp rfl (Dcmp_ok _ _) rfl rfl rfl rfl ?_
    (refine Qk ilss rfl rfl rfl rfl ?_;refine Qj (hK _ _ (Qz ?_));clear hK K)
    refine Q2 rfl (fun h3=> ?_) (fun h3=> ?_)
    · have h4:=hk.1 h3
      (refine Qx (fun K hK=> ?_);refine Qq rfl rfl rfl ?_;refine Qk (iadd (by omega) (by omega)) rfl rfl rfl rfl ?_;refine Qv rfl rfl rfl ?_;refine Qj (hK _ _ (Ql (Q6 ?_)));clear hK K)
      refine Q9 (k+1,j) (by dsimp only;omega) ⟨by dsimp only;omega,by dsimp only;omega,by dsimp only;omega,by dsimp only;omega⟩ (by exact Qu rfl ⟨rfl,rfl,rfl,rfl,by simp only [Int.natCast_add];rfl,rfl,trivial⟩)
    · have h4:¬k<ps:=fun h=>h3 (hk.2 h)
      (refine Qx (fun K hK=> ?_);refine Qq rfl rfl rfl ?_;refine Qv rfl rfl rfl ?_;refine Qj (hK _ _ (Ql (Q6 ?_)));clear hK K)
      refine Q9 (i,k) (by dsimp only;omega) ⟨by dsimp only;omega,by dsimp only;omega,by dsimp only;omega,by dsimp only;omega⟩ (by exact Qu rfl ⟨rfl,rfl,rfl,rfl,rfl,rfl,trivial⟩)
  have hip:i=ps:=by omega
  subst hip
  have e2:(i:Int).toNat=i:=Int.toNat_natCast i
  clear hlt h1 h2 hij
  (refine Qm (Qz (Qy ?_)))
  refine XX (by with_reducible exact mixed) 16 (.p 0 (.p 1 (.p 2 (.p 3 (.p 4 (.p 5 (.p 6 (.p 7 (.p 8 (.f 9 (.f 10 (.m 11 (.p 12 (.p 13 (.p 14 (.p 15 .done)))))))))))))))) (by kernel_rfl) (fun K hK=> ?_)
  (refine Qq rfl rfl rfl ?_;refine Qq rfl rfl rfl ?_;refine Qq rfl rfl rfl ?_;refine Qk ilss rfl rfl rfl rfl ?_;refine Qq rfl rfl rfl ?_)
  refine Qi 39 rfl (fun h3=> ?_) (fun h3=> ?_)
  · have hb:bm=decide (cmpW (vs.getD i wr0) x=0):=by rw [hmem];exact decide_eq_decide.2 ⟨fun h=>h.2,fun h=>⟨by omega,h⟩⟩
    (refine Qq rfl rfl rfl ?_;refine Qq rfl rfl rfl ?_;refine Qq rfl rfl rfl ?_)
    refine Qt rfl rfl rfl (by with_reducible exact sWrs) (by omega) (wrs_at (by omega) (by omega)) rfl ?_
    rw [e2]
    refine X9 (n:=2) rfl rfl rfl (by with_reducible exact Yk) rfl rfl ?_
    (refine Qe (n:=2) rfl rfl rfl rfl rfl (by with_reducible first|exact lTrav|exact Yk|exact lCs) rfl ?_)
    refine Ops.callF goDcmp rfl (Dcmp_ok _ _) rfl rfl rfl rfl ?_
    (refine Qk ieql rfl rfl rfl rfl ?_;refine Q5 rfl rfl rfl rfl ?_;refine Qv rfl rfl rfl ?_;refine Qv rfl rfl rfl ?_;refine Qj (hK _ _ (Qz (Q4 ?_)));clear hK K)
    refine Q3 [_,_] rfl (QQ rfl (QQ rfl QZ)) (by rw [hb];rfl) rfl
  · have hb:bm=false:=by rw [hmem];exact decide_eq_false fun h=>h3 (by omega)
    (refine Qw rfl rfl rfl ?_;refine Qw rfl rfl rfl ?_;refine Qw rfl rfl rfl ?_;refine Qw rfl rfl rfl ?_;refine Qw rfl rfl rfl ?_;refine Qw rfl rfl rfl ?_;refine Qw rfl rfl rfl ?_;refine Qw rfl rfl rfl ?_;refine Q8 rfl rfl rfl rfl ?_;refine Qv rfl rfl rfl ?_;refine Qv rfl rfl rfl ?_;refine Qj (hK _ _ (Qz (Q4 ?_)));clear hK K)
    refine Q3 [_,_] rfl (QQ rfl (QQ rfl QZ)) (by rw [hb];rfl) rfl
theorem gounit:InGo Tryz.prog 52:=InGo.of Tryz.func52 rfl (by decide)
set_option maxHeartbeats 4000000 in
theorem unit_ok(n k:Nat)(hk:k<n)(hn:n≤1000)(f:Int):Ok Tryz.prog 52 [intC n,intC k,intC f] (intsC (unL n k f)):=by
  have e2:(k:Int).toNat=k:=Int.toNat_natCast k
  refine Ok.enter Tryz.func52 rfl _ Tryz.ntmps52 rfl ?_
  intro S w
  (refine Qy (Qx fun K hK=> ?_);refine Qv rfl rfl rfl ?_;refine Qj (hK _ _ (Qz (Qy ?_)));clear hK K;refine Qx (fun K hK=> ?_);refine Qq rfl rfl rfl ?_)
  refine Zs 0 n rfl rfl rfl rfl (by with_reducible exact sInts) (by omega) (by omega) rfl rfl rfl ?_
  rw [ints_made]
  (refine Qv rfl rfl rfl ?_;refine Qj (hK _ _ (Qz (Qy ?_)));clear hK K;refine Qx (fun K hK=> ?_);refine Qq rfl rfl rfl ?_;refine Qq rfl rfl rfl ?_;refine Qq rfl rfl rfl ?_)
  refine XJ n rfl rfl rfl (by simp [ints]) rfl (by with_reducible exact sInts) (by omega) (by omega) rfl ?_
  refine Xz rfl rfl rfl rfl rfl (by with_reducible exact zInt) (by simp [Ent.cs];omega) ?_
  simp only [Ent.setc,ZX]
  rw [show (k:Int).toNat*1=k by omega]
  (refine Qj (hK _ _ (Qz (Qy ?_)));clear hK K;refine Qx (fun K hK=> ?_);refine Qq rfl rfl rfl ?_;refine Qv rfl rfl rfl ?_;refine Qj (hK _ _ (Qz (Q4 ?_)));clear hK K)
  refine Y6 0 _ rfl (Zv _ _) noBor_sub ?_
  refine Q3 [_] rfl (QQ rfl QZ) rfl rfl
end Go.Proofs.YtojkdfilabmafaaGreat
namespace Go.Proofs.YtojkdfilabmafaaGreat
open Go.Own Go.Limbs
attribute [local irreducible] St Ops Go.Own.Fin Ok OkB OkN OkT OkL OkF OkM
theorem takeS{α:Type}{z:α}{l:List α}{i:Nat}(h:i<l.length):l.take (i+1)=l.take i++ [l.getD i z]:=by
  rw [List.take_add_one,List.getElem?_eq_getElem h];simp [List.getD_eq_getElem?_getD,List.getElem?_eq_getElem h]
def rwsF (rs : List Rw) : List CT := (rs.map rwCs).flatten
theorem rw_len(r:Rw):(rwCs r).length=2:=rfl
theorem rwsF_len(l:List Rw):(rwsF l).length=l.length*2:=el_len rw_len l
theorem rwsF_snoc(l:List Rw)(r:Rw):rwsF (l++ [r])=rwsF l++rwCs r:=by simp [rwsF]
theorem rwsF_frozen(e:Nat)(l:List Rw):(Ent.row e 2 (rwsF l)).frozen (sliceT 2 (l.map rwCs)):=
  ⟨_,rfl,fun e he=>by obtain ⟨m,_,rfl⟩:=List.mem_map.mp he;rfl,by decide,rfl⟩
abbrev prB (vs : List Wr) (v : Value) (rs : List Rw) : BL := [(0, .box 108 [wrsC vs, .ex v]), (1, .rowx v 79 2 (rwsF rs))]
theorem fPr0:fldInfo Tryz.prog 108 0=some (0,some 1):=by kernel_rfl
theorem fPr1:fldInfo Tryz.prog 108 1=some (1,some 1):=by kernel_rfl
theorem lWrs1P:Ld1 Tryz.prog 25:=Ld1.of _ Tryz.underlying25 rfl
theorem lRws1:Ld1 Tryz.prog 56:=Ld1.of _ Tryz.underlying56 rfl
theorem zRws1:(Tryz.prog.info? 56).map (·.size)=some 1:=by kernel_rfl
theorem bRow:bInfo Tryz.prog 79=some (.agg #[.slice none 0 0, .int .i64 0],[(0,some 1),(1,some 1)]):=by kernel_rfl
theorem goadd:InGo Tryz.prog 46:=InGo.of Tryz.func46 rfl (by decide)
set_option maxHeartbeats 16000000 in
theorem add_ok(vs:List Wr)(hu:Up cmpW vs)(hvl:vs.length≤100)(v:Value)(hv:v.oneCell' =true)(rs:List Rw)(hrl:rs.length≤100000)(ws:List Wr)(hwl:ws.length≤1000)(f b:Int)(hf:f=1∨f= -1):
    OkM Tryz.prog 46 [.own 0, .ct (wrsC ws), .ct (intC f), .ct (intC b)] (prB vs v rs) [0] (fun v' :Value=>v'.oneCell' =true) (fun _=> .ct unitC) (fun v' =>prB vs v' (rs++ [⟨cfW vs ws f,b⟩])):=by
  refine OkM.enter Tryz.func46 rfl _ Tryz.ntmps46 rfl (fun i hi=>by rw [List.mem_singleton.1 hi];rfl) ?_
  intro S w ρ0 hbor
  (refine Qy (Qx fun K hK=> ?_);refine Qq rfl rfl rfl ?_;refine QU rfl rfl rfl rfl ?_)
  refine QJ rfl rfl rfl (by with_reducible exact fPr0) rfl ?_
  refine QX rfl rfl rfl rfl rfl (by with_reducible exact lWrs1P) rfl ?_
  (refine Qf rfl rfl (by with_reducible first|exact sTks.und|exact sWrs.und|exact sIks.und|exact sAdrs.und) (List.length_map ..) rfl ?_)
  refine Zs 2 vs.length rfl rfl rfl rfl (by with_reducible exact sInts) (by omega) (by omega) rfl rfl rfl ?_
  rw [ints_made,←cfW_nil vs f]
  (refine Qv rfl rfl rfl ?_;refine Qj (hK _ _ (Qz (Qy (Qy ?_))));clear hK K;refine Qx (fun K hK=> ?_);refine Qq rfl rfl rfl ?_;refine Qf rfl rfl (by with_reducible first|exact sTks.und|exact sWrs.und|exact sIks.und|exact sAdrs.und) (List.length_map ..) rfl ?_;refine Qq rfl rfl rfl ?_;refine Qj (hK _ _ (Qz (Q1 ?_)));clear hK K)
  refine Qr (α:=Nat) (fun i=>i≤ws.length)
    (fun i=>[(0, .own 0),(2, .ct (intC f)),(3, .ct (intC b)),(8, .own 2),(19, .ct (wrsC ws)),(20, .ct (intC ws.length)),(21, .ct (intC i))])
    (fun i=>(2, .row 3 1 (ints (cfW vs (ws.take i) f)))::prB vs v rs) (fun i=>ws.length - i) 0 (Nat.zero_le _) (by exact Qu rfl ⟨rfl,rfl,rfl,rfl,rfl,rfl,rfl,trivial⟩) ?_
  intro i hi
  try dsimp only at hi ⊢
  (refine Qy (Qx fun K hK=> ?_);refine Qk ilss rfl rfl rfl rfl ?_;refine Qj (hK _ _ (Qz (Qy ?_)));clear hK K)
  refine Q2 rfl (fun h=> ?_) (fun h=> ?_)
  · have e2:(i:Int).toNat=i:=Int.toNat_natCast i
    have hs:ws.take (i+1)=ws.take i++ [ws.getD i wr0]:=takeS (by omega)
    have hbd:=cfW_bd vs (ws.take i) hf (by rw [List.length_take];omega)
    (refine QK (Qz (Qy (Q1 (Qy (Qx fun K hK=> ?_))))))
    refine Qt rfl rfl rfl (by with_reducible exact sWrs) (by omega) (wrs_at (by omega) (by omega)) rfl ?_
    rw [e2]
    generalize ws.getD i wr0=x at hs
    refine X9 (n:=2) rfl rfl rfl (by with_reducible exact Yk) rfl rfl ?_
    refine Qg 3 rfl rfl (by with_reducible exact zvWire) rfl rfl rfl ?_
    refine Qb 2 rfl rfl rfl rfl rfl (by with_reducible exact szWire) rfl rfl ?_
    (refine Qj (hK _ _ (Qz (Qy ?_)));clear hK K)
    refine XX (by with_reducible exact mixed) 11 (.p 0 (.p 1 (.p 2 (.f 3 (.f 4 (.m 5 (.p 6 (.p 7 (.p 8 (.p 9 (.p 10 .done))))))))))) (by kernel_rfl) (fun K hK=> ?_)
    (refine Qq rfl rfl rfl ?_;refine QU rfl rfl rfl rfl ?_)
    refine QJ rfl rfl rfl (by with_reducible exact fPr0) rfl ?_
    skip
    refine QX rfl rfl rfl rfl rfl (by with_reducible exact lWrs1P) rfl ?_
    (refine Qe (n:=2) rfl rfl rfl rfl rfl (by with_reducible first|exact lTrav|exact Yk|exact lCs) rfl ?_)
    refine QV goBSearch (BSearch_ok vs x hu (by omega)) rfl rfl rfl rfl ?_
    (refine Qq rfl rfl rfl ?_;refine Q0 rfl rfl rfl rfl ?_;refine Q0 rfl rfl rfl rfl ?_;refine Qv rfl rfl rfl ?_;refine Qv rfl rfl rfl ?_;refine Qj (hK _ _ (Qz (Qy ?_)));clear hK K;refine Qx (fun K hK=> ?_);refine Qq rfl rfl rfl ?_;refine Qj (hK _ _ (Qz ?_));clear hK K)
    by_cases hx:x∈vs
    · rw [decide_eq_true hx]
      have hin:=cfW_in hu hx (ws.take i) f
      have hpl:=((posD_at hu).1 hx).1
      have hbd:=hbd (posD vs x)
      have hcl:=cfW_len vs (ws.take i) f
      rw [←hs] at hin
      generalize posD vs x=k at hin hpl hbd ⊢
      generalize cfW vs (ws.take i) f=cs at hin hbd hcl ⊢
      have e3:(k:Int).toNat*1=k:=by omega
      (refine XZ rfl (Qx fun K hK=> ?_);refine Qq rfl rfl rfl ?_;refine Qq rfl rfl rfl ?_)
      refine XJ vs.length rfl rfl rfl (by simp [hcl]) rfl (by with_reducible exact sInts) (by omega) (by omega) rfl ?_
      rw [e3]
      refine QX rfl rfl rfl rfl (Xo (by omega)) (by with_reducible exact lInt) rfl ?_
      refine Qq rfl rfl rfl ?_
      refine Qk (iadd (by omega) (by omega)) rfl rfl rfl rfl ?_
      refine XJ vs.length rfl rfl rfl (by simp [hcl]) rfl (by with_reducible exact sInts) (by omega) (by omega) rfl ?_
      rw [e3]
      refine Xz rfl rfl rfl rfl rfl (by with_reducible exact zInt) (by simp [Ent.cs];omega) ?_
      simp only [Ent.setc,ZX]
      rw [hin]
      (refine Qj (hK _ _ (Qz ?_));clear hK K;refine Qx (fun K hK=> ?_);refine Qk (iadd (by omega) (by omega)) rfl rfl rfl rfl ?_;refine Qq rfl rfl rfl ?_;refine Qj (hK _ _ (Q6 ?_));clear hK K)
      refine Xj 3 ?_
      refine Q9 (i+1) (by omega) (by omega) (by exact Qu rfl ⟨rfl,rfl,rfl,rfl,rfl,rfl,by simp only [Int.natCast_add];rfl,trivial⟩)
    · rw [decide_eq_false hx]
      have hout:=cfW_out hx (ws.take i) f
      rw [←hs] at hout
      rw [←hout]
      (refine Xw rfl (QK (Qz (Qx fun K hK=> ?_)));refine Qk (iadd (by omega) (by omega)) rfl rfl rfl rfl ?_;refine Qq rfl rfl rfl ?_;refine Qj (hK _ _ (Q6 ?_));clear hK K)
      refine Xj 3 ?_
      refine Q9 (i+1) (by omega) (by omega) (by exact Qu rfl ⟨rfl,rfl,rfl,rfl,rfl,rfl,by simp only [Int.natCast_add];rfl,trivial⟩)
  have hi' :i=ws.length:=by omega
  rw [hi',List.take_length]
  generalize cfW vs ws f=cs
  (refine Qm (Qz (Qx fun K hK=> ?_));refine Qq rfl rfl rfl ?_;refine Qq rfl rfl rfl ?_;refine QU rfl rfl rfl rfl ?_)
  refine QJ rfl rfl rfl (by with_reducible exact fPr1) rfl ?_
  refine QX rfl rfl rfl rfl rfl (by with_reducible exact lRws1) rfl ?_
  refine Qq rfl rfl rfl ?_
  refine Qq rfl rfl rfl ?_
  refine ZY 2 _ rfl (Zv _ _) hbor ?_
  refine Qo rfl (by with_reducible exact bRow) rfl (.one rfl rfl rfl rfl (.one rfl rfl rfl rfl .nil)) rfl ?_
  refine Ze (n:=2) rfl rfl (by with_reducible exact sRows) rfl rfl (by decide) rfl ?_
  refine X4 47 1 rfl rfl ?_
  refine Xq rs.length (rwsF (rs++ [⟨cs,b⟩])) rfl rfl rfl rfl (by with_reducible exact sRows) (rwsF_len rs) rfl (by omega) (by omega) (rwsF_snoc rs ⟨cs,b⟩) rfl ?_
  (refine QU rfl rfl rfl rfl ?_)
  refine QJ rfl rfl rfl (by with_reducible exact fPr1) rfl ?_
  refine Ops.name 52 1 rfl rfl (fun v' hv' => ?_)
  refine Xz (c:= .ex v') rfl rfl rfl rfl hv' (by with_reducible exact zRws1) (by simp [Ent.cs]) ?_
  (refine Qj (hK _ _ ?_);clear hK K)
  refine Fin.endM v' [] rfl QZ rfl (fun j=> ?_) hv'
  rfl
end Go.Proofs.YtojkdfilabmafaaGreat
namespace Go.Proofs.YtojkdfilabmafaaGreat
open Go.Own Go.Limbs Go.Det
def tmT (d : List Int) (t : Nat) : Int := if t = 0 then 0 else d.getD (t - 1) 0
theorem tmT_succ(d:List Int)(t:Nat):tmT d (t+1)=d.getD t 0:=by unfold tmT;rw [if_neg (Nat.succ_ne_zero t),Nat.add_sub_cancel]
theorem tmT_zero(d:List Int):tmT d 0=0:=rfl
def Gap (d : List Int) (mo qu : Int) : Prop := 0 ≤ qu ∧ ∀ t, t < d.length → qu ≤ tmT d (t + 1) - tmT d t ∧ tmT d (t + 1) - tmT d t + qu ≤ mo
theorem wks_len(c:Nat):(wks 1 c).length=c:=by unfold wks;rw [List.length_map,List.length_range]
theorem wk_inj{a b:Nat}(ha:a≤900)(hb:b≤900)(h:wk (1+a)=wk (1+b)):a=b:=by
  have h1:=adN_val (t:=1+(a:Int)) (by omega) (by omega)
  have h2:=adN_val (t:=1+(b:Int)) (by omega) (by omega)
  have h3:adN (1+(a:Int))=adN (1+(b:Int)):=congrArg (·.2) h
  rw [h3] at h1
  omega
theorem count_wks{j:Nat}(hj:j≤900):∀t:Nat,t≤900→(wks 1 t).count (wk (1+j))=if j<t then 1 else 0
  |0,_=>by rw [if_neg (Nat.not_lt_zero _)];rfl
  |t+1,ht=>by
    rw [wks_succ,List.count_append,count_wks hj t (by omega),List.count_singleton]
    by_cases e:t=j
    · subst e;rw [if_neg (Nat.lt_irrefl _),if_pos (Nat.lt_succ_self _)];simp
    · have hne:(wk (1+(t:Int))==wk (1+(j:Int)))=false:=by
        rw [beq_eq_false_iff_ne];exact fun h=>e (wk_inj (by omega) hj h)
      rw [hne,if_neg (show ¬(false=true) by decide),Nat.add_zero]
      by_cases h:j<t
      · rw [if_pos h,if_pos (show j<t+1 by omega)]
      · rw [if_neg h,if_neg (show ¬j<t+1 by omega)]
theorem cf_getD{n j:Nat}(ws:List Wr)(f:Int)(hj:j<n):(cfW (wks 1 n) ws f).getD j 0=f*(ws.count (wk (1+j)):Int):=by
  unfold cfW wks
  rw [List.map_map,List.getD_eq_getElem?_getD,List.getElem?_map,List.getElem?_range hj];rfl
theorem pre_getD{n j t:Nat}(f:Int)(hj:j<n)(ht:t≤n)(hn:n≤16):(cfW (wks 1 n) (wks 1 t) f).getD j 0=if j<t then f else 0:=by
  rw [cf_getD _ _ hj,count_wks (by omega) t (by omega)]
  split
  · rw [Int.natCast_one,Int.mul_one]
  · rw [Int.natCast_zero,Int.mul_zero]
theorem one_getD{n i j:Nat}(hj:j<n)(hi:i<n)(hn:n≤16):(cfW (wks 1 n) [wk (1+i)] 1).getD j 0=if j=i then 1 else 0:=by
  rw [cf_getD _ _ hj,List.count_singleton]
  by_cases e:j=i
  · subst e;simp
  · have hne:(wk (1+(i:Int))==wk (1+(j:Int)))=false:=by
      rw [beq_eq_false_iff_ne];exact fun h=>e (wk_inj (by omega) (by omega) h).symm
    rw [hne,if_neg e];rfl
theorem tele(S:Nat→Int)(f:Int)(t:Nat):∀n:Nat,sm (fun j=>(if j<t then f else 0)*(S (j+1) - S j)) n=f*(S (min t n) - S 0)
  |0=>by rw [Nat.min_zero,Int.sub_self,Int.mul_zero];rfl
  |n+1=>by
    show sm _ n+(if n<t then f else 0)*(S (n+1) - S n)=_
    rw [tele S f t n]
    by_cases h:n<t
    · rw [if_pos h,Nat.min_eq_right (by omega),Nat.min_eq_right (by omega)];grind
    · rw [if_neg h,Nat.min_eq_left (by omega),Nat.min_eq_left (by omega),Int.zero_mul,Int.add_zero]
theorem rsum_pre{n t:Nat}(S:Nat→Int)(f:Int)(ht:t≤n)(hn:n≤16):rsum n (cfW (wks 1 n) (wks 1 t) f) (fun j=>S (j+1) - S j)=f*(S t - S 0):=by
  unfold rsum
  rw [Xb (g:=fun j=>(if j<t then f else 0)*(S (j+1) - S j)) (fun k hk=>by rw [pre_getD f hk ht hn]),tele,Nat.min_eq_left ht]
theorem rsum_one{n i:Nat}(X:Nat→Int)(hi:i<n)(hn:n≤16):rsum n (cfW (wks 1 n) [wk (1+i)] 1) X=X i:=by
  unfold rsum
  rw [Yy (i:=i) hi (fun k hk he=>by rw [one_getD hk hi hn,if_neg he,Int.zero_mul]),one_getD hi hi hn,if_pos rfl,Int.one_mul]
section
variable {d : List Int} {mo qu : Int}
def rowsY (d : List Int) (mo qu : Int) : List Rw := rowsD (wks 1 d.length) mo qu (msF (yF 0 d))
theorem rowsY_mem(hd:d.length≤16)(hT:∀T∈d,0≤T∧T≤1000000){r:Rw}:r∈rowsY d mo qu↔(∃i,i<d.length∧r=⟨cfW (wks 1 d.length) [wk (1+(i:Nat))] 1,mo⟩)∨
    ∃t,t<d.length∧(r=⟨cfW (wks 1 d.length) (wks 1 (t+1)) 1,tmT d (t+1)⟩∨r=⟨cfW (wks 1 d.length) (wks 1 (t+1)) (-1),qu - tmT d (t+1)⟩):=by
  have hm:∀k:Nat,meR (wks 1 d.length) qu (rpY (0+k) (0+k+1) (d.getD k 0),wks 1 (rpY (0+k) (0+k+1) (d.getD k 0)).tt.toNat)=
      [⟨cfW (wks 1 d.length) (wks 1 (k+1)) 1,tmT d (k+1)⟩,⟨cfW (wks 1 d.length) (wks 1 (k+1)) (-1),qu - tmT d (k+1)⟩]:=fun k=>by
    have e1:(rpY (0+k) (0+k+1) (d.getD k 0)).tt.toNat=k+1:=by show (0+(k:Int)+1).toNat=_;omega
    have e2:(rpY (0+(k:Int)) (0+k+1) (d.getD k 0)).bk - (rpY (0+(k:Int)) (0+k+1) (d.getD k 0)).tm=tmT d (k+1):=by
      rw [tmT_succ];show 100*(0+(k:Int))+d.getD k 0 - 100*(0+(k:Int))=_;omega
    unfold meR
    dsimp only
    rw [e1,e2]
  unfold rowsY rowsD
  rw [List.mem_append,List.mem_map,yF_ms (by omega) hT,List.mem_flatMap]
  refine or_congr ⟨?_,?_⟩ ⟨?_,?_⟩
  · rintro ⟨w,hw,rfl⟩
    obtain ⟨i,hi,rfl⟩:=wks_mem.1 hw
    exact ⟨i,hi,rfl⟩
  · rintro ⟨i,hi,rfl⟩
    exact ⟨_,wks_mem.2 ⟨i,hi,rfl⟩,rfl⟩
  · rintro ⟨m,hmm,hr⟩
    obtain ⟨x,hx,rfl⟩:=List.mem_map.1 hmm
    obtain ⟨k,hk,rfl⟩:=yF_mem hx
    rw [hm k] at hr
    refine ⟨k,hk,?_⟩
    rcases List.mem_cons.1 hr with h|h
    · exact .inl h
    · exact .inr (List.mem_singleton.1 h)
  · rintro ⟨k,hk,hr⟩
    refine ⟨_,List.mem_map_of_mem (yF_has (i:=0) hk),?_⟩
    rw [hm k]
    rcases hr with h|h
    · rw [h];exact List.mem_cons_self ..
    · rw [h];exact List.mem_cons_of_mem _ (List.mem_cons_self ..)
theorem rowsD_len(vs:List Wr)(mo qu:Int):∀ms:List Me,(rowsD vs mo qu ms).length=vs.length+2*ms.length:=fun ms=>by
  have:∀ms:List Me,(ms.flatMap (meR vs qu)).length=2*ms.length:=fun ms=>by
    induction ms with
    |nil=>rfl
    |cons m ms ih=>rw [List.flatMap_cons,List.length_append,ih,List.length_cons];show 2+_=_;omega
  unfold rowsD
  rw [List.length_append,List.length_map,this]
theorem rowsY_len(hd:d.length≤16)(hT:∀T∈d,0≤T∧T≤1000000):(rowsY d mo qu).length=3*d.length:=by
  unfold rowsY
  rw [rowsD_len,wks_len,yF_ms (by omega) hT,List.length_map,yF_len];omega
def stS (d : List Int) (qu : Int) (s t : Nat) : Int := tmT d t - (if t = s ∧ 0 < t then qu else 0)
theorem feasY(hd:d.length≤16)(hT:∀T∈d,0≤T∧T≤1000000)(hG:Gap d mo qu)(s:Nat):Feas d.length (rowsY d mo qu) 1 (fun j=>stS d qu s (j+1) - stS d qu s j):=by
  obtain ⟨hq,hg⟩:=hG
  have h0:stS d qu s 0=0:=by unfold stS;rw [if_neg (fun h=>absurd h.2 (Nat.lt_irrefl _)),tmT_zero];rfl
  have hst:∀t,stS d qu s t≤tmT d t∧tmT d t - qu≤stS d qu s t:=fun t=>by unfold stS;split <;>omega
  have hgap:∀j,j<d.length→0≤stS d qu s (j+1) - stS d qu s j∧stS d qu s (j+1) - stS d qu s j≤mo:=fun j hj=>by
    have h1:=hg j hj
    have h2:=hst j
    have h3:=hst (j+1)
    omega
  refine feas_of (fun v hv=>(hgap v hv).1) fun r hr=> ?_
  rcases (rowsY_mem hd hT).1 hr with ⟨i,hi,rfl⟩|⟨t,ht,rfl|rfl⟩
  · dsimp only
    rw [rsum_one _ hi hd];exact (hgap i hi).2
  · dsimp only
    rw [rsum_pre (stS d qu s) 1 (by omega) hd,h0]
    have:=hst (t+1)
    omega
  · dsimp only
    rw [rsum_pre (stS d qu s) (-1) (by omega) hd,h0]
    have:=hst (t+1)
    omega
def hiY (d : List Int) (qu : Int) (i : Nat) : Int := tmT d (i + 1) - tmT d i + if i = 0 then 0 else qu
def loY (d : List Int) (qu : Int) (i : Nat) : Int := tmT d (i + 1) - tmT d i - qu
theorem hi_sol(hd:d.length≤16)(hT:∀T∈d,0≤T∧T≤1000000)(hG:Gap d mo qu){i:Nat}(hi:i<d.length){O:Oc}(h:Sol d.length (rowsY d mo qu) (unL d.length i 1) O):O.kind=1∧Btw (hiY d qu i) (hiY d qu i) O.value:=by
  have hF:=feasY hd hT hG i
  have hl:=rowsY_len (mo:=mo) (qu:=qu) hd hT
  have hX:rsum d.length (unL d.length i 1) (fun j=>stS d qu i (j+1) - stS d qu i j)=hiY d qu i:=by
    rw [rsum_un _ hi,Int.one_mul]
    unfold stS hiY
    rw [if_neg (by omega)]
    by_cases e:i=0
    · rw [if_neg (by omega),if_pos e];omega
    · rw [if_pos ⟨rfl,by omega⟩,if_neg e];omega
  have hY:∃Y,Dual d.length (rowsY d mo qu) (unL d.length i 1) 1 Y∧sm (fun k=>cb (rowsY d mo qu) k*Y k) (rowsY d mo qu).length=hiY d qu i:=by
    have m1:(⟨cfW (wks 1 d.length) (wks 1 (i+1)) 1,tmT d (i+1)⟩:Rw)∈rowsY d mo qu:=(rowsY_mem hd hT).2 (.inr ⟨i,hi, .inl rfl⟩)
    by_cases e:i=0
    · obtain ⟨Y,y1,y2⟩:=dual_one (n:=d.length) (c:=unL d.length i 1) m1 (fun j hj=>by rw [unL_getD 1 hi,pre_getD 1 hj (by omega) hd];split <;>split <;>omega)
      refine ⟨Y,y1,y2.trans ?_⟩
      unfold hiY;rw [if_pos e,e,tmT_zero];dsimp only;omega
    · have m2:(⟨cfW (wks 1 d.length) (wks 1 (i - 1+1)) (-1),qu - tmT d (i - 1+1)⟩:Rw)∈rowsY d mo qu:=(rowsY_mem hd hT).2 (.inr ⟨i - 1,by omega, .inr rfl⟩)
      rw [show i - 1+1=i by omega] at m2
      obtain ⟨Y,y1,y2⟩:=dual_two (n:=d.length) (c:=unL d.length i 1) m1 m2 (fun j hj=>by rw [unL_getD 1 hi,pre_getD 1 hj (by omega) hd,pre_getD (-1) hj (by omega) hd];split <;>split <;>split <;>omega)
      refine ⟨Y,y1,y2.trans ?_⟩
      unfold hiY;rw [if_neg e];dsimp only;omega
  obtain ⟨Y,y1,y2⟩:=hY
  have:=sol_btw h (by omega) hF y1
  rw [hX,y2] at this
  exact this
theorem lo_sol(hd:d.length≤16)(hT:∀T∈d,0≤T∧T≤1000000)(hG:Gap d mo qu){i:Nat}(hi:i<d.length){O:Oc}(h:Sol d.length (rowsY d mo qu) (unL d.length i (-1)) O):O.kind=1∧Btw (-loY d qu i) (-loY d qu i) O.value:=by
  have hF:=feasY hd hT hG (i+1)
  have hl:=rowsY_len (mo:=mo) (qu:=qu) hd hT
  have hX:rsum d.length (unL d.length i (-1)) (fun j=>stS d qu (i+1) (j+1) - stS d qu (i+1) j)= -loY d qu i:=by
    rw [rsum_un _ hi]
    unfold stS loY
    rw [if_pos ⟨rfl,Nat.succ_pos _⟩,if_neg (by omega)];omega
  have hY:∃Y,Dual d.length (rowsY d mo qu) (unL d.length i (-1)) 1 Y∧sm (fun k=>cb (rowsY d mo qu) k*Y k) (rowsY d mo qu).length= -loY d qu i:=by
    have m1:(⟨cfW (wks 1 d.length) (wks 1 (i+1)) (-1),qu - tmT d (i+1)⟩:Rw)∈rowsY d mo qu:=(rowsY_mem hd hT).2 (.inr ⟨i,hi, .inr rfl⟩)
    by_cases e:i=0
    · obtain ⟨Y,y1,y2⟩:=dual_one (n:=d.length) (c:=unL d.length i (-1)) m1 (fun j hj=>by rw [unL_getD (-1) hi,pre_getD (-1) hj (by omega) hd];split <;>split <;>omega)
      refine ⟨Y,y1,y2.trans ?_⟩
      unfold loY;rw [e,tmT_zero];dsimp only;omega
    · have m2:(⟨cfW (wks 1 d.length) (wks 1 (i - 1+1)) 1,tmT d (i - 1+1)⟩:Rw)∈rowsY d mo qu:=(rowsY_mem hd hT).2 (.inr ⟨i - 1,by omega, .inl rfl⟩)
      rw [show i - 1+1=i by omega] at m2
      obtain ⟨Y,y1,y2⟩:=dual_two (n:=d.length) (c:=unL d.length i (-1)) m1 m2 (fun j hj=>by rw [unL_getD (-1) hi,pre_getD (-1) hj (by omega) hd,pre_getD 1 hj (by omega) hd];split <;>split <;>split <;>omega)
      refine ⟨Y,y1,y2.trans ?_⟩
      unfold loY;dsimp only;omega
  obtain ⟨Y,y1,y2⟩:=hY
  have:=sol_btw h (by omega) hF y1
  rw [hX,y2] at this
  exact this
end
theorem cf_ok(vs ws:List Wr){f:Int}(hf:f=1∨f= -1)(hw:ws.length≤256):okCoeffs (vs.length:Int) (cfW vs ws f)=true:=by
  unfold okCoeffs
  rw [Bool.and_eq_true,decide_eq_true_eq]
  refine ⟨by unfold cfW;rw [List.length_map];omega,?_⟩
  have:(cfW vs ws f).any badC=false:=by
    rw [List.any_eq_false]
    intro x hx
    obtain ⟨v,_,rfl⟩:=List.mem_map.1 hx
    have hc:ws.count v≤256:=Nat.le_trans List.count_le_length hw
    generalize ws.count v=k at hc
    unfold badC
    rcases hf with rfl|rfl
    · simp;omega
    · simp;omega
  rw [this];rfl
theorem rowsD_valid{vs:List Wr}{ms:List Me}{mo qu:Int}(hv:vs.length≤16)(hl:vs.length+2*ms.length≤64)(hm:∀m∈ms,m.2.length≤256∧0≤m.1.bk - m.1.tm∧m.1.bk - m.1.tm≤2251799813685248)(ht:tiB mo qu=true):validR (vs.length:Int) (rowsD vs mo qu ms)=true:=by
  have ht:0≤mo∧mo≤1073741824∧0≤qu∧qu≤1073741824:=of_decide_eq_true ht
  have good:∀(ws:List Wr) (f b:Int),(f=1∨f= -1)→ws.length≤256→-4503599627370496≤b→b≤4503599627370496→badR (vs.length:Int) ⟨cfW vs ws f,b⟩=false:=fun ws f b hf hw h1 h2=>by
    unfold badR
    dsimp only
    rw [cf_ok vs ws hf hw,decide_eq_false (by omega),decide_eq_false (by omega)];rfl
  unfold validR
  rw [decide_eq_true (by omega),decide_eq_true (by omega),decide_eq_true (by rw [rowsD_len];exact hl)]
  have:(rowsD vs mo qu ms).any (badR (vs.length:Int))=false:=by
    rw [List.any_eq_false]
    intro r hr
    unfold rowsD at hr
    rcases List.mem_append.1 hr with h|h
    · obtain ⟨v,_,rfl⟩:=List.mem_map.1 h
      rw [good [v] 1 mo (.inl rfl) (by show 1≤256;decide) (by omega) (by omega)];decide
    · obtain ⟨m,hmm,h⟩:=List.mem_flatMap.1 h
      obtain ⟨h1,h2,h3⟩:=hm m hmm
      rcases List.mem_cons.1 h with rfl|h
      · rw [good m.2 1 _ (.inl rfl) h1 (by omega) (by omega)];decide
      · rw [List.mem_singleton.1 h,good m.2 (-1) _ (.inr rfl) h1 (by omega) (by omega)];decide
  rw [this];rfl
theorem unL_ok{n i:Nat}(h:i<n){f:Int}(hf:f=1∨f= -1):okCoeffs (n:Int) (unL n i f)=true:=by
  unfold okCoeffs
  rw [Bool.and_eq_true,decide_eq_true_eq]
  refine ⟨by unfold unL;rw [List.length_set,List.length_replicate];omega,?_⟩
  have:(unL n i f).any badC=false:=by
    rw [List.any_eq_false]
    intro x hx
    have hb:x=0∨x=f:=by
      unfold unL at hx
      rcases List.mem_or_eq_of_mem_set hx with h|h
      · exact .inl (List.eq_of_mem_replicate h)
      · exact .inr h
    unfold badC
    rcases hb with rfl|rfl
    · decide
    · rcases hf with rfl|rfl <;>decide
  rw [this];rfl
theorem ok_time{r:Rs}(h:okR r=true):0≤r.tm∧r.tm≤2251799813685248∧0≤r.bk - r.tm∧r.bk - r.tm≤2251799813685248:=by
  unfold okR at h
  rw [Bool.and_eq_true,decide_eq_true_eq] at h
  have hP:¬P1 r:=fun hp=>by have:=h.1;unfold ckE at this;rw [if_pos hp] at this;cases this
  unfold P1 at hP
  omega
theorem me_time(l:List Rs):∀m∈msF l,(0≤m.1.tm∧m.1.tm≤2251799813685248)∧0≤m.1.bk - m.1.tm∧m.1.bk - m.1.tm≤2251799813685248:=fun m hm=>by
  obtain ⟨r,hr,rfl⟩:=List.mem_map.1 hm
  have h1:=(List.mem_filter.1 hr).1
  have h2:=(List.mem_filter.1 (((sd_spec ordR _).2 r).1 h1)).2
  obtain ⟨a,b,c,e⟩:=ok_time h2
  exact ⟨⟨a,b⟩,c,e⟩
def bdF (O1 O2 : Oc) : Oc × Oc × (Int × Int) × Int :=
  if O1.kind ≠ 1 ∨ O2.kind ≠ 1 then (oc0, oc0, (0, 0), 33) else if flV O2.value < -flV O1.value then (oc0, oc0, (0, 0), 33) else (O1, O2, (-flV O1.value, flV O2.value), 0)
end Go.Proofs.YtojkdfilabmafaaGreat
namespace Go.Own
section
variable {X : Ctx} {L : AL} {B : BL} {ops : Array Oper} {K : Act → World → Prop} {r : Pl} {k : Kd}
  {x y z : Operand} {d : Nat} {t t2 t' : TypeId} {pos : String} {af : Array Edge} {g : Option (Nat × Bool)}
theorem Entails.front{L' :AL}{B' :BL}(a:Nat)(e:Ent)(hb:bget B a=some e)(h:Entails X L ((a,e)::bdel B a) L' B'):Entails X L B L' B' :=fun x ρ w hI=>h x ρ w (hI.bext fun j=>by
  by_cases hj:a=j
  · subst hj;rw [Qc,hb]
  · rw [QW _ _ hj,XW _ (Ne.symm hj)])
end
end Go.Own
namespace Go.Proofs.YtojkdfilabmafaaGreat
open Go.Own Go.Limbs
attribute [local irreducible] St Ops Go.Own.Fin Ok OkB OkN OkT OkL OkF OkM
abbrev tiCs (mo qu : Int) : List CT := [intC mo, intC qu]
abbrev tiC (mo qu : Int) : CT := .fr (aggT (tiCs mo qu))
theorem lTi:LdN Tryz.prog 32 2:=LdN.of _ Tryz.underlying32 rfl (by kernel_rfl)
theorem fTi0:fldInfo Tryz.prog 32 0=some (0,some 1):=by kernel_rfl
theorem fTi1:fldInfo Tryz.prog 32 1=some (1,some 1):=by kernel_rfl
theorem bPrg:bInfo Tryz.prog 108=some (.agg #[.slice none 0 0, .slice none 0 0],[(0,some 1),(1,some 1)]):=by kernel_rfl
theorem fMe0:fldInfo Tryz.prog 111 0=some (0,some 17):=by kernel_rfl
theorem goDValid:InGo Tryz.prog 30:=InGo.of Tryz.func30 rfl (by decide)
set_option maxHeartbeats 4000000 in
theorem DValid_ok(mo qu:Int):Ok Tryz.prog 30 [tiC mo qu] (boolC (tiB mo qu)):=by
  have no:¬(0≤mo∧mo≤1073741824∧0≤qu∧qu≤1073741824)→tiB mo qu=false:=fun h=>decide_eq_false h
  have yes:0≤mo→mo≤1073741824→0≤qu→tiB mo qu=decide (qu≤1073741824):=fun h1 h2 h3=>decide_eq_decide.2 ⟨fun h=>h.2.2.2,fun h=>⟨h1,h2,h3,h⟩⟩
  generalize tiB mo qu=out at no yes ⊢
  refine Ok.enter Tryz.func30 rfl _ Tryz.ntmps30 rfl ?_
  intro S w
  (refine Qy (Qx fun K hK=> ?_);refine XQ 0 rfl rfl rfl rfl rfl rfl rfl ?_;refine Qv rfl rfl rfl ?_;refine Qj (hK _ _ (Qz (Qy ?_)));clear hK K;refine Qx (fun K hK=> ?_))
  refine QJ rfl rfl rfl (by with_reducible exact fTi0) rfl ?_
  (refine QX rfl rfl rfl rfl rfl (by with_reducible first|exact lInt|exact lAddr|exact lBool1|exact Zm) rfl ?_;refine Qk igeq rfl rfl rfl rfl ?_;refine Qq rfl rfl rfl ?_)
  refine Qi 6 rfl (fun h1=> ?_) (fun h1=> ?_)
  rotate_left
  · have e:=no (fun h=>h1 h.1)
    (refine Qw rfl rfl rfl ?_;refine Qw rfl rfl rfl ?_;refine Qw rfl rfl rfl ?_;refine Q8 rfl rfl rfl rfl ?_;refine Qq rfl rfl rfl ?_;refine Qw rfl rfl rfl ?_;refine Qw rfl rfl rfl ?_;refine Qw rfl rfl rfl ?_;refine Q8 rfl rfl rfl rfl ?_;refine Qq rfl rfl rfl ?_;refine Qw rfl rfl rfl ?_;refine Qw rfl rfl rfl ?_;refine Qw rfl rfl rfl ?_;refine Q8 rfl rfl rfl rfl ?_;refine Qv rfl rfl rfl ?_;refine Qj (hK _ _ (Qz (Q4 ?_)));clear hK K)
    refine Q3 [_] rfl (QQ rfl QZ) (by rw [e];rfl) rfl
  refine QJ rfl rfl rfl (by with_reducible exact fTi0) rfl ?_
  (refine QX rfl rfl rfl rfl rfl (by with_reducible first|exact lInt|exact lAddr|exact lBool1|exact Zm) rfl ?_;refine Qk ileq rfl rfl rfl rfl ?_;refine Q5 rfl rfl rfl rfl ?_;refine Qq rfl rfl rfl ?_)
  refine Qi 11 rfl (fun h2=> ?_) (fun h2=> ?_)
  rotate_left
  · have e:=no (fun h=>h2 h.2.1)
    (refine Qw rfl rfl rfl ?_;refine Qw rfl rfl rfl ?_;refine Qw rfl rfl rfl ?_;refine Q8 rfl rfl rfl rfl ?_;refine Qq rfl rfl rfl ?_;refine Qw rfl rfl rfl ?_;refine Qw rfl rfl rfl ?_;refine Qw rfl rfl rfl ?_;refine Q8 rfl rfl rfl rfl ?_;refine Qv rfl rfl rfl ?_;refine Qj (hK _ _ (Qz (Q4 ?_)));clear hK K)
    refine Q3 [_] rfl (QQ rfl QZ) (by rw [e];rfl) rfl
  refine QJ rfl rfl rfl (by with_reducible exact fTi1) rfl ?_
  (refine QX rfl rfl rfl rfl rfl (by with_reducible first|exact lInt|exact lAddr|exact lBool1|exact Zm) rfl ?_;refine Qk igeq rfl rfl rfl rfl ?_;refine Q5 rfl rfl rfl rfl ?_;refine Qq rfl rfl rfl ?_)
  refine Qi 16 rfl (fun h3=> ?_) (fun h3=> ?_)
  rotate_left
  · have e:=no (fun h=>h3 h.2.2.1)
    (refine Qw rfl rfl rfl ?_;refine Qw rfl rfl rfl ?_;refine Qw rfl rfl rfl ?_;refine Q8 rfl rfl rfl rfl ?_;refine Qv rfl rfl rfl ?_;refine Qj (hK _ _ (Qz (Q4 ?_)));clear hK K)
    refine Q3 [_] rfl (QQ rfl QZ) (by rw [e];rfl) rfl
  have e:=yes h1 h2 h3
  refine QJ rfl rfl rfl (by with_reducible exact fTi1) rfl ?_
  (refine QX rfl rfl rfl rfl rfl (by with_reducible first|exact lInt|exact lAddr|exact lBool1|exact Zm) rfl ?_;refine Qk ileq rfl rfl rfl rfl ?_;refine Q5 rfl rfl rfl rfl ?_;refine Qv rfl rfl rfl ?_;refine Qj (hK _ _ (Qz (Q4 ?_)));clear hK K)
  refine Q3 [_] rfl (QQ rfl QZ) (by rw [e];rfl) rfl
theorem prog_none{vs:List Wr}{v:Value}{rs:List Rw}{j:Nat}(h:2≤j):bget (prB vs v rs) j=none:=by
  show bget ((0,_)::(1,_)::[]) j=none
  rw [QW _ _ (by omega),QW _ _ (by omega)];rfl
theorem prog_swap{E:BL}(h:beside E=true)(vs:List Wr)(v:Value)(rs:List Rw)(j:Nat):bget (E++prB vs v rs) j=bget (prB vs v rs++E) j:=by
  rw [X7,X7]
  cases h1:bget E j with
  |none=>cases bget (prB vs v rs) j <;>rfl
  |some e=>
    have:=beside_get h (j:=j) (by rw [h1];rfl)
    rw [prog_none (by omega)];rfl
section
variable {X : Ctx} {L : AL} {B : BL} {ops : Array Oper} {K : Act → World → Prop} {r : Pl} {k : Kd}
  {x y z : Operand} {d : Nat} {t t2 t' : TypeId} {pos : String} {af : Array Edge} {g : Option (Nat × Bool)}
theorem Ops.callAdd{f:FuncId}{args:List Operand}{tys:Array TypeId}{As:List Sl}{vs:List Wr}{v:Value}{rs rs' :List Rw}{J:Value→Prop}(E:BL)(hgo:InGo X.P f)(hok:OkM X.P f As (prB vs v rs) [0] J (fun _=> .ct unitC) (fun q=>prB vs q rs'))(hg:gd ops L g=some true)(hargs:evS L args=some As)(hn:Nat.blt d X.n=true)
    (hbor:∀gb,X.bor gb→X.S0 gb) (hB:B=E++prB vs v rs) (hE:beside E=true) (hfix:∀p∈X.fix,(bget E p.1).isSome=true∨p.1∈ [0])
    (h:∀q,J q→Ops X ops r ((d, .ct unitC)::keepL kpT L) (E++prB vs q rs') K):Ops X ops (.cons ⟨some d, .call {callee:= .value (.func f),args:=args.toArray,argTypes:=tys},t,pos,af,g⟩ .any r) L B K:=by
  subst hB
  refine Ops.callM E kpT hgo hok hg hargs hn hbor (prog_swap hE vs v rs) (fun j hj=> ?_) (fun j hj=> ?_) hfix (fun q j h=> ?_) (fun q hq=> ?_)
  · have:=beside_get hE hj
    exact ⟨prog_none (by omega),fun q=>prog_none (by omega)⟩
  · unfold kpT at hj
    rw [Bool.or_eq_true,Bool.and_eq_true] at hj
    rcases hj with hj|⟨h1,h2⟩
    · exact .inl (by rw [Nat.eq_of_beq_eq_true hj];simp)
    · have:=Nat.le_of_ble_eq_true h1
      exact .inr fun q=>prog_none (by omega)
  · rcases h with h|⟨_,h⟩ <;>cases h
  · exact Ops.reB (fun j=>prog_swap hE vs q rs' j) (h q hq)
end
theorem goDRows:InGo Tryz.prog 17:=InGo.of Tryz.func17 rfl (by decide)
set_option maxHeartbeats 32000000 in
theorem DRows_ok(l:List Rs)(hl:l.length≤10000)(mo qu:Int):Ok Tryz.prog 17 [rssC l,tiC mo qu] (.fr (tupT [rowsC (rwO l mo qu).1,iksC (rwO l mo qu).2.1,intC (rwO l mo qu).2.2])):=by
  have hV:=DValid_ok mo qu
  have hVa:=Variables_ok l hl
  have hM:=measures_ok l hl
  have hmw:=me_wires l
  have hmt:=me_time l
  have hti:tiB mo qu=true→0≤mo∧mo≤1073741824∧0≤qu∧qu≤1073741824:=fun h=>of_decide_eq_true h
  have hml:(msF l).length≤10000:=by
    unfold msF
    rw [List.length_map]
    have h1:=List.length_filter_le (mesB l) (sd cmpR (l.filter okR))
    have h2:=sd_len cmpR (l.filter okR)
    have h3:=List.length_filter_le okR l
    omega
  have e:rwO l mo qu=if tiB mo qu=false then ([],[],1) else if ¬(vrO l).2=0 then ([],[],(vrO l).2)
    else if 64<((vrO l).1.length:Int)+2*(msF l).length then ([],[],5) else (rowsD (vrO l).1 mo qu (msF l),(msF l).map (fun m=>idOf m.1),0):=rfl
  have hvu:Up cmpW (vrO l).1:=by
    unfold vrO
    split
    · exact List.Pairwise.nil
    · split
      · exact List.Pairwise.nil
      · exact (sd_spec ordW _).1
  have hvl:(vrO l).1.length≤16:=by
    unfold vrO
    split
    · exact Nat.zero_le _
    · split
      · exact Nat.zero_le _
      · dsimp only;omega
  generalize rwO l mo qu=out at e ⊢
  generalize tiB mo qu=tb at hV hti e
  generalize vrO l=vo at hVa e hvu hvl
  generalize msF l=ms at hM hmw hmt hml e
  obtain ⟨vs,ve⟩:=vo
  dsimp only at hVa e hvu hvl
  refine Ok.enter Tryz.func17 rfl _ Tryz.ntmps17 rfl ?_
  intro S w
  refine Qy ?_
  refine Qx (fun K hK=> ?_)
  refine XQ 5 rfl rfl rfl rfl rfl rfl rfl ?_
  (refine Qv rfl rfl rfl ?_;refine Qv rfl rfl rfl ?_;refine Qv rfl rfl rfl ?_;refine Qj (hK _ _ (Qz (Qy (Qy ?_))));clear hK K;refine Qx (fun K hK=> ?_))
  refine Qe (n:=2) rfl rfl rfl rfl rfl (by with_reducible exact lTi) rfl ?_
  refine QV goDValid hV rfl rfl rfl rfl ?_
  (refine Xx rfl rfl rfl ?_;refine Qj (hK _ _ (Qz ?_));clear hK K)
  refine X6 rfl (fun h1=> ?_) (fun h1=> ?_)
  · rw [if_pos (by cases tb with|true=>cases h1|false=>rfl)] at e
    (refine Qy (Qx fun K hK=> ?_);refine Qv rfl rfl rfl ?_;refine Qv rfl rfl rfl ?_;refine Qv rfl rfl rfl ?_;refine Qj (hK _ _ (Qz (Q4 (QY ?_))));clear hK K)
    refine Q3 [_,_,_] rfl (Xd Yc (QQ rfl (Xd Yc (QQ rfl (QQ rfl QZ))))) (by rw [e];rfl) rfl
  have htb:tb=true:=by cases tb with|true=>rfl|false=>cases h1
  obtain ⟨t1,t2,t3,t4⟩:=hti htb
  rw [if_neg (by rw [htb];decide)] at e
  (refine QK (Qz (Qy (Qx fun K hK=> ?_)));refine Qq rfl rfl rfl ?_)
  refine QV goVariables hVa rfl rfl rfl rfl ?_
  (refine Qq rfl rfl rfl ?_;refine Q0 rfl rfl rfl rfl ?_;refine Q0 rfl rfl rfl rfl ?_;refine Qv rfl rfl rfl ?_;refine Qv rfl rfl rfl ?_;refine Qj (hK _ _ (Qz (Qy (Qy ?_))));clear hK K;refine Qx (fun K hK=> ?_);refine Qq rfl rfl rfl ?_;refine Qk ineq rfl rfl rfl rfl ?_;refine Qj (hK _ _ (Qz ?_));clear hK K)
  refine Q2 rfl (fun h2=> ?_) (fun h2=> ?_)
  · rw [if_pos h2] at e
    (refine Qy (Qx fun K hK=> ?_);refine Qq rfl rfl rfl ?_;refine Qv rfl rfl rfl ?_;refine Qv rfl rfl rfl ?_;refine Qv rfl rfl rfl ?_;refine Qj (hK _ _ (Qz (Q4 (QY ?_))));clear hK K)
    refine Q3 [_,_,_] rfl (Xd Yc (QQ rfl (Xd Yc (QQ rfl (QQ rfl QZ))))) (by rw [e];rfl) rfl
  rw [if_neg h2] at e
  (refine QK (Qz (Qy (Qx fun K hK=> ?_)));refine Qq rfl rfl rfl ?_)
  refine QV gomeasures hM rfl rfl rfl rfl ?_
  (refine Qv rfl rfl rfl ?_;refine Qj (hK _ _ (Qz (Qy (Qy ?_))));clear hK K;refine Qx (fun K hK=> ?_);refine Qq rfl rfl rfl ?_;refine Qf rfl rfl (by with_reducible first|exact sTks.und|exact sWrs.und|exact sIks.und|exact sAdrs.und) (List.length_map ..) rfl ?_;refine Qq rfl rfl rfl ?_)
  refine Qf rfl rfl (by with_reducible exact sMes.und) (List.length_map ..) rfl ?_
  (refine Qk (imul (by omega) (by omega)) rfl rfl rfl rfl ?_;refine Qk (iadd (by omega) (by omega)) rfl rfl rfl rfl ?_;refine Qk igtr rfl rfl rfl rfl ?_;refine Qj (hK _ _ (Qz ?_));clear hK K)
  refine Q2 rfl (fun h3=> ?_) (fun h3=> ?_)
  · rw [if_pos (by omega)] at e
    (refine Qy (Qx fun K hK=> ?_);refine Qv rfl rfl rfl ?_;refine Qv rfl rfl rfl ?_;refine Qv rfl rfl rfl ?_;refine Qj (hK _ _ (Qz (Q4 (QY ?_))));clear hK K)
    refine Q3 [_,_,_] rfl (Xd Yc (QQ rfl (Xd Yc (QQ rfl (QQ rfl QZ))))) (by rw [e];rfl) rfl
  rw [if_neg (by omega)] at e
  have hms:ms.length≤32:=by omega
  (refine QK (Qz (Qy (Qx fun K hK=> ?_)));refine Qq rfl rfl rfl ?_)
  refine Qo rfl (by with_reducible exact bPrg) rfl (.one rfl rfl rfl rfl .nil) rfl ?_
  refine XQ 0 rfl rfl rfl rfl rfl rfl rfl ?_
  (refine Qv rfl rfl rfl ?_;refine Qj (hK _ _ (Qz (Qy (Qy ?_))));clear hK K;refine Qx (fun K hK=> ?_);refine Qq rfl rfl rfl ?_;refine Qf rfl rfl (by with_reducible first|exact sTks.und|exact sWrs.und|exact sIks.und|exact sAdrs.und) (List.length_map ..) rfl ?_;refine Qq rfl rfl rfl ?_;refine Qj (hK _ _ (Qz (Q1 ?_)));clear hK K)
  refine St.nilX 1 79 2 rfl rfl ?_
  refine Qr (α:=Nat × Value) (fun q=>q.1≤vs.length∧q.2.oneCell' =true)
    (fun q=>[(3, .own 5),(7, .ct (wrsC vs)),(9, .ct (mesC ms)),(10, .own 0),(40, .ct (wrsC vs)),(41, .ct (intC vs.length)),(42, .ct (intC q.1))])
    (fun q=>(5, .box 32 (tiCs mo qu))::prB vs q.2 ((vs.take q.1).map fun v=>⟨cfW vs [v] 1,mo⟩)) (fun q=>vs.length - q.1) (0, .slice none 0 0) ⟨Nat.zero_le _,rfl⟩
    (Entails.front 0 _ rfl (Entails.front 5 _ rfl (by exact Qu rfl ⟨rfl,rfl,rfl,rfl,rfl,rfl,rfl,trivial⟩))) ?_
  rintro ⟨i,v⟩ ⟨hi,hv⟩
  dsimp only at hi hv ⊢
  (refine Qy (Qx fun K hK=> ?_);refine Qk ilss rfl rfl rfl rfl ?_;refine Qj (hK _ _ (Qz (Qy ?_)));clear hK K)
  refine Q2 rfl (fun h4=> ?_) (fun h4=> ?_)
  · have e2:(i:Int).toNat=i:=Int.toNat_natCast i
    have hs:(vs.take (i+1)).map (fun v=>(⟨cfW vs [v] 1,mo⟩:Rw))=(vs.take i).map (fun v=>(⟨cfW vs [v] 1,mo⟩:Rw))++ [⟨cfW vs [vs.getD i wr0] 1,mo⟩]:=by rw [takeS (z:=wr0) (by omega),List.map_append];rfl
    have hrl:((vs.take i).map (fun v=>(⟨cfW vs [v] 1,mo⟩:Rw))).length≤16:=by rw [List.length_map,List.length_take];omega
    generalize (vs.take i).map (fun v=>(⟨cfW vs [v] 1,mo⟩:Rw))=rs at hs hrl ⊢
    (refine QK (Qz (Qy (Q1 (Qy (Qx fun K hK=> ?_))))))
    refine Qt rfl rfl rfl (by with_reducible exact sWrs) (by omega) (wrs_at (by omega) (by omega)) rfl ?_
    rw [e2]
    generalize vs.getD i wr0=x at hs
    refine X9 (n:=2) rfl rfl rfl (by with_reducible exact Yk) rfl rfl ?_
    refine Qg 6 rfl rfl (by with_reducible exact zvWire) rfl rfl rfl ?_
    refine Qb 2 rfl rfl rfl rfl rfl (by with_reducible exact szWire) rfl rfl ?_
    (refine Qj (hK _ _ (Qz ?_));clear hK K;refine Qx (fun K hK=> ?_);refine Qq rfl rfl rfl ?_;refine Qe (n:=2) rfl rfl rfl rfl rfl (by with_reducible first|exact lTrav|exact Yk|exact lCs) rfl ?_)
    refine Ze (n:=2) rfl rfl (by with_reducible exact sWrs) rfl rfl (by decide) rfl ?_
    refine QJ rfl rfl rfl (by with_reducible exact fTi0) rfl ?_
    (refine QX rfl rfl rfl rfl rfl (by with_reducible first|exact lInt|exact lAddr|exact lBool1|exact Zm) rfl ?_)
    refine Ops.callAdd (As:=[.own 0, .ct (wrsC [x]), .ct (intC 1), .ct (intC mo)]) [(6,_),(5,_)] goadd (add_ok vs hvu (by omega) v hv rs (by omega) [x] (by show 1≤1000;decide) 1 mo (.inl rfl)) rfl rfl rfl (fun _ h=>h.elim) rfl rfl (fun p hp=>absurd hp (by simp)) (fun v' hv' => ?_)
    (refine Qj (hK _ _ (Qz ?_));clear hK K;refine Qx (fun K hK=> ?_);refine Qk (iadd (by omega) (by omega)) rfl rfl rfl rfl ?_;refine Qq rfl rfl rfl ?_;refine Qj (hK _ _ (Q6 ?_));clear hK K)
    refine Xj 6 ?_
    refine Q9 (i+1,v') (by dsimp only;omega) ⟨by dsimp only;omega,hv'⟩ (by rw [hs];exact Qu rfl ⟨rfl,rfl,rfl,rfl,rfl,rfl,by simp only [Int.natCast_add];rfl,trivial⟩)
  have hi' :i=vs.length:=by omega
  rw [hi',List.take_length]
  have hrl0:(vs.map (fun v=>(⟨cfW vs [v] 1,mo⟩:Rw))).length≤16:=by rw [List.length_map];omega
  have er:rowsD vs mo qu ms=vs.map (fun v=>(⟨cfW vs [v] 1,mo⟩:Rw))++ms.flatMap (meR vs qu):=rfl
  rw [er] at e
  generalize vs.map (fun v=>(⟨cfW vs [v] 1,mo⟩:Rw))=r0 at hrl0 e ⊢
  clear er
  (refine Qm (Qz (Qy (Qx fun K hK=> ?_)));refine Qv rfl rfl rfl ?_;refine Qj (hK _ _ (Qz (Qy (Qy ?_))));clear hK K;refine Qx (fun K hK=> ?_);refine Qq rfl rfl rfl ?_)
  refine Qf rfl rfl (by with_reducible exact sMes.und) (List.length_map ..) rfl ?_
  (refine Qq rfl rfl rfl ?_;refine Qj (hK _ _ (Qz (Q1 ?_)));clear hK K)
  refine Yj 13 8 82 3 rfl rfl rfl ?_
  refine Qr (α:=Nat × Value) (fun q=>q.1≤ms.length∧q.2.oneCell' =true)
    (fun q=>[(3, .own 5),(10, .own 0),(13, .own 8),(53, .ct (mesC ms)),(54, .ct (intC ms.length)),(55, .ct (intC q.1))])
    (fun q=>(8, .row 82 3 (iks ((ms.take q.1).map fun m=>idOf m.1)))::(5, .box 32 (tiCs mo qu))::prB vs q.2 (r0++(ms.take q.1).flatMap (meR vs qu))) (fun q=>ms.length - q.1) (0,v) ⟨Nat.zero_le _,hv⟩
    (by rw [List.take_zero,List.flatMap_nil,List.append_nil];exact Qu rfl ⟨rfl,rfl,rfl,rfl,rfl,rfl,trivial⟩) ?_
  clear hv v
  rintro ⟨j,v⟩ ⟨hj,hv⟩
  dsimp only at hj hv ⊢
  (refine Qy (Qx fun K hK=> ?_);refine Qk ilss rfl rfl rfl rfl ?_;refine Qj (hK _ _ (Qz (Qy ?_)));clear hK K)
  refine Q2 rfl (fun h5=> ?_) (fun h5=> ?_)
  rotate_left
  · have hj' :j=ms.length:=by omega
    rw [hj',List.take_length]
    refine St.frzX 1 0 1 _ rfl rfl rfl (rwsF_frozen 0 _) (fun _ h=>h.elim) ?_
    refine St.frz 8 _ rfl (iks_frozen _ _) (fun _ h=>h.elim) ?_
    (refine Qm (Qz (Qy (Qx fun K hK=> ?_)));refine Qq rfl rfl rfl ?_;refine QU rfl rfl rfl rfl ?_)
    refine QJ rfl rfl rfl (by with_reducible exact fPr1) rfl ?_
    refine QX rfl rfl rfl rfl rfl (by with_reducible exact lRws1) rfl ?_
    (refine Qq rfl rfl rfl ?_;refine Qv rfl rfl rfl ?_;refine Qv rfl rfl rfl ?_;refine Qv rfl rfl rfl ?_;refine Qj (hK _ _ (Qz (Q4 ?_)));clear hK K)
    refine Q3 [_,_,_] rfl (QQ rfl (QQ rfl (QQ rfl QZ))) (by rw [e];rfl) rfl
  have e2:(j:Int).toNat=j:=Int.toNat_natCast j
  have hmem:ms.getD j me0∈ms:=by rw [List.getD_eq_getElem?_getD,List.getElem?_eq_getElem (by omega)];exact List.getElem_mem _
  have hw:=hmw _ hmem
  have ht:=hmt _ hmem
  have hs1:(ms.take (j+1)).map (fun m=>idOf m.1)=(ms.take j).map (fun m=>idOf m.1)++ [idOf (ms.getD j me0).1]:=by rw [takeS (z:=me0) (by omega),List.map_append];rfl
  have hs2:r0++(ms.take (j+1)).flatMap (meR vs qu)=(r0++(ms.take j).flatMap (meR vs qu))++ [⟨cfW vs (ms.getD j me0).2 1,(ms.getD j me0).1.bk - (ms.getD j me0).1.tm⟩]++ [⟨cfW vs (ms.getD j me0).2 (-1),qu - ((ms.getD j me0).1.bk - (ms.getD j me0).1.tm)⟩]:=by
    rw [takeS (z:=me0) (by omega),List.flatMap_append,←List.append_assoc,List.append_assoc _ [_] [_]]
    refine congrArg _ ?_
    rw [List.flatMap_cons,List.flatMap_nil,List.append_nil];rfl
  have hl1:((ms.take j).map (fun m=>idOf m.1)).length≤32:=by rw [List.length_map,List.length_take];omega
  have hl2:(r0++(ms.take j).flatMap (meR vs qu)).length≤100:=by
    have:∀q:List Me,(q.flatMap (meR vs qu)).length=2*q.length:=fun q=>by
      induction q with
      |nil=>rfl
      |cons m q ih=>rw [List.flatMap_cons,List.length_append,ih,List.length_cons];show 2+_=_;omega
    rw [List.length_append,this,List.length_take];omega
  generalize (ms.take j).map (fun m=>idOf m.1)=is at hs1 hl1 ⊢
  generalize r0++(ms.take j).flatMap (meR vs qu)=rs at hs2 hl2 ⊢
  (refine QK (Qz (Qy (Q1 (Qy (Qx fun K hK=> ?_))))))
  refine Qt rfl rfl rfl (by with_reducible exact sMes) (by omega) (mes_at (by omega) (by omega)) rfl ?_
  rw [e2]
  generalize ms.getD j me0=m at hw ht hs1 hs2
  obtain ⟨x,ws⟩:=m
  dsimp only at hw ht hs1 hs2
  refine X9 (n:=18) rfl rfl rfl (by with_reducible exact lMe) rfl rfl ?_
  refine Qg 7 rfl rfl (by with_reducible exact zvMe) rfl rfl rfl ?_
  refine Qb 18 rfl rfl rfl rfl rfl (by with_reducible exact szMe) rfl rfl ?_
  (refine Qj (hK _ _ (Qz (Qy ?_)));clear hK K;refine Qx (fun K hK=> ?_))
  refine QJ rfl rfl rfl (by with_reducible exact fMe0) rfl ?_
  refine Z2 rfl rfl (by with_reducible exact fS10) rfl ?_
  refine QX rfl rfl rfl rfl rfl (by with_reducible exact lInt) rfl ?_
  refine QJ rfl rfl rfl (by with_reducible exact fMe0) rfl ?_
  refine Z2 rfl rfl (by with_reducible exact fS3) rfl ?_
  refine QX rfl rfl rfl rfl rfl (by with_reducible exact lInt) rfl ?_
  refine Qk (isub (p:=x.bk) (q:=x.tm) (by omega) (by omega)) rfl rfl rfl rfl ?_
  (refine Qv rfl rfl rfl ?_;refine Qj (hK _ _ (Qz (Qy ?_)));clear hK K;refine Qx (fun K hK=> ?_);refine Qq rfl rfl rfl ?_)
  refine QJ rfl rfl rfl (by with_reducible exact fMe1) rfl ?_
  refine QX rfl rfl rfl rfl rfl (by with_reducible exact lWrs1P) rfl ?_
  (refine Qq rfl rfl rfl ?_)
  refine Ops.callAdd (As:=[.own 0, .ct (wrsC ws), .ct (intC 1), .ct (intC (x.bk - x.tm))]) [(7,_),(8,_),(5,_)] goadd (add_ok vs hvu (by omega) v hv rs (by omega) ws (by omega) 1 (x.bk - x.tm) (.inl rfl)) rfl rfl rfl (fun _ h=>h.elim) rfl rfl (fun p hp=>absurd hp (by simp)) (fun v2 hv2=> ?_)
  (refine Qj (hK _ _ (Qz (Qy ?_)));clear hK K;refine Qx (fun K hK=> ?_);refine Qq rfl rfl rfl ?_)
  refine QJ rfl rfl rfl (by with_reducible exact fMe1) rfl ?_
  refine QX rfl rfl rfl rfl rfl (by with_reducible exact lWrs1P) rfl ?_
  refine QJ rfl rfl rfl (by with_reducible exact fTi1) rfl ?_
  (refine QX rfl rfl rfl rfl rfl (by with_reducible first|exact lInt|exact lAddr|exact lBool1|exact Zm) rfl ?_;refine Qq rfl rfl rfl ?_;refine Qk (isub (by omega) (by omega)) rfl rfl rfl rfl ?_)
  refine Ops.callAdd (As:=[.own 0, .ct (wrsC ws), .ct (intC (-1)), .ct (intC (qu - (x.bk - x.tm)))]) [(7,_),(8,_),(5,_)] goadd (add_ok vs hvu (by omega) v2 hv2 (rs++ [⟨cfW vs ws 1,x.bk - x.tm⟩]) (by rw [List.length_append,List.length_singleton];omega) ws (by omega) (-1) (qu - (x.bk - x.tm)) (.inr rfl)) rfl rfl rfl (fun _ h=>h.elim) rfl rfl (fun p hp=>absurd hp (by simp)) (fun v3 hv3=> ?_)
  (refine Qj (hK _ _ (Qz ?_));clear hK K;refine Qx (fun K hK=> ?_);refine Qq rfl rfl rfl ?_)
  refine QJ rfl rfl rfl (by with_reducible exact fMe0) rfl ?_
  refine Zt (n:=17) rfl rfl rfl rfl (Nat.le_of_ble_eq_true rfl) (by with_reducible exact lRes) rfl ?_
  refine QV goIdentity (Identity_ok x) rfl rfl rfl rfl ?_
  refine Ze (n:=3) rfl rfl (by with_reducible exact sIks) rfl rfl (by decide) rfl ?_
  refine Xq is.length (iks (is++ [idOf x])) rfl rfl rfl rfl (by with_reducible exact sIks) (iks_len _) rfl (by omega) (by omega) (iks_snoc _ _) rfl ?_
  (refine Qv rfl rfl rfl ?_;refine Qj (hK _ _ (Qz ?_));clear hK K;refine Qx (fun K hK=> ?_);refine Qk (iadd (by omega) (by omega)) rfl rfl rfl rfl ?_;refine Qq rfl rfl rfl ?_;refine Qj (hK _ _ (Q6 ?_));clear hK K)
  refine Xj 7 ?_
  refine Q9 (j+1,v3) (by dsimp only;omega) ⟨by dsimp only;omega,hv3⟩ (by rw [hs1,hs2];exact Qu rfl ⟨rfl,rfl,rfl,rfl,rfl,by simp only [Int.natCast_add];rfl,trivial⟩)
abbrev ivCs (p : Int × Int) : List CT := [intC p.1, intC p.2]
abbrev ivC (p : Int × Int) : CT := .fr (aggT (ivCs p))
theorem lIv:LdN Tryz.prog 39 2:=LdN.of _ Tryz.underlying39 rfl (by kernel_rfl)
theorem szIv:(Tryz.prog.info? 39).map (·.size)=some 2:=by kernel_rfl
theorem zvIv:(Tryz.prog.info? 39).map (·.zero)=some (some (.agg #[.int .i64 0, .int .i64 0])):=by kernel_rfl
theorem bIv:bInfo Tryz.prog 39=some (.agg #[.int .i64 0, .int .i64 0],[(0,some 1),(1,some 1)]):=by kernel_rfl
theorem fOu0:fldInfo Tryz.prog 100 0=some (0,some 1):=by kernel_rfl
theorem fOu1:fldInfo Tryz.prog 100 1=some (1,some 3):=by kernel_rfl
theorem flV_bd(f:Fr): -4611686018427387904≤flV f∧flV f≤4611686018427387904:=by
  have h:=natAbs_sg f.neg (rnd f.num f.den f.neg)
  unfold flV
  split <;>omega
theorem Solve_any{n:Nat}{rs:List Rw}{c:List Int}(hv:validR n rs=true)(hc:okCoeffs n c=true):∃O:Oc,Sol n rs c O∧Ok Tryz.prog 81 [intC n,rowsC rs,intsC c] (.fr (tupT [ocC O,intC 0])):=by
  obtain ⟨N,e,hL⟩:=lpOf hv hc
  have e:n=N:=by omega
  subst e
  obtain ⟨T,E,F,s,hR,hS⟩:=lp_sol hL
  exact ⟨_,hS,Solve_ok n rs c hL hv hc hR⟩
structure OcF (O : Oc) : Prop where
  kind : O.kind = 1
  num : (limbs O.value.num).length ≤ 100
  den : (limbs O.value.den).length ≤ 100
  pos : 0 < O.value.den
theorem gobounds:InGo Tryz.prog 44:=InGo.of Tryz.func44 rfl (by decide)
set_option maxHeartbeats 16000000 in
theorem bounds_fine(n k:Nat)(hk:k<n)(hn:n≤16)(rs:List Rw)(O1 O2:Oc)(hS1:Ok Tryz.prog 81 [intC n,rowsC rs,intsC (unL n k (-1))] (.fr (tupT [ocC O1,intC 0])))(hS2:Ok Tryz.prog 81 [intC n,rowsC rs,intsC (unL n k 1)] (.fr (tupT [ocC O2,intC 0])))
    (z1:OcF O1) (z2:OcF O2) (hle: -flV O1.value≤flV O2.value):
    Ok Tryz.prog 44 [rowsC rs,intC n,intC k] (.fr (tupT [ocC O1,ocC O2,ivC (-flV O1.value,flV O2.value),intC 0])):=by
  have hU1:=unit_ok n k hk (by omega) (-1)
  have hU2:=unit_ok n k hk (by omega) 1
  have hF1:=FFloor_any O1.value z1.num z1.pos z1.den
  have hF2:=FFloor_any O2.value z2.num z2.pos z2.den
  have hb1:=flV_bd O1.value
  have hb2:=flV_bd O2.value
  have k1:=z1.kind
  have k2:=z2.kind
  clear z1 z2
  obtain ⟨q1,⟨g1,m1,d1⟩,o1,y1,u1⟩:=O1
  obtain ⟨q2,⟨g2,m2,d2⟩,o2,y2,u2⟩:=O2
  dsimp only at k1 k2 hF1 hF2 hb1 hb2 hle ⊢
  subst k1;subst k2
  generalize flV ⟨g1,m1,d1⟩=lo at hF1 hb1 hle ⊢
  generalize flV ⟨g2,m2,d2⟩=hi at hF2 hb2 hle ⊢
  refine Ok.enter Tryz.func44 rfl _ Tryz.ntmps44 rfl ?_
  intro S w
  refine Qy ?_
  refine Qx (fun K hK=> ?_)
  refine Qg 0 rfl rfl (by with_reducible exact zvOut) rfl rfl rfl ?_
  refine Qg 1 rfl rfl (by with_reducible exact zvOut) rfl rfl rfl ?_
  refine Qg 2 rfl rfl (by with_reducible exact zvIv) rfl rfl rfl ?_
  (refine Qv rfl rfl rfl ?_;refine Qj (hK _ _ (Qz (Qy ?_)));clear hK K;refine Qx (fun K hK=> ?_);refine Qq rfl rfl rfl ?_;refine Qq rfl rfl rfl ?_;refine Qq rfl rfl rfl ?_;refine Qq rfl rfl rfl ?_)
  refine QV gounit hU1 rfl rfl rfl rfl ?_
  refine QV goSolve hS1 rfl rfl rfl rfl ?_
  (refine Qq rfl rfl rfl ?_;refine Q0 rfl rfl rfl rfl ?_;refine Q0 rfl rfl rfl rfl ?_)
  refine Qb 7 rfl rfl rfl rfl rfl (by with_reducible exact szOut) rfl rfl ?_
  (refine Qj (hK _ _ (Qz (Qy ?_)));clear hK K;refine Qx (fun K hK=> ?_);refine Qq rfl rfl rfl ?_;refine Qq rfl rfl rfl ?_;refine Qq rfl rfl rfl ?_;refine Qq rfl rfl rfl ?_)
  refine QV gounit hU2 rfl rfl rfl rfl ?_
  refine QV goSolve hS2 rfl rfl rfl rfl ?_
  (refine Qq rfl rfl rfl ?_;refine Q0 rfl rfl rfl rfl ?_;refine Q0 rfl rfl rfl rfl ?_)
  refine Qb 7 rfl rfl rfl rfl rfl (by with_reducible exact szOut) rfl rfl ?_
  (refine Qj (hK _ _ (Qz (Qy (Qy ?_))));clear hK K;refine Qx (fun K hK=> ?_))
  refine QJ rfl rfl rfl (by with_reducible exact fOu0) rfl ?_
  (refine QX rfl rfl rfl rfl rfl (by with_reducible first|exact lInt|exact lAddr|exact lBool1|exact Zm) rfl ?_;refine Qk ineq rfl rfl rfl rfl ?_;refine Qq rfl rfl rfl ?_)
  refine Qi 35 rfl (fun g=>absurd rfl g) (fun _=> ?_)
  refine QJ rfl rfl rfl (by with_reducible exact fOu0) rfl ?_
  (refine QX rfl rfl rfl rfl rfl (by with_reducible first|exact lInt|exact lAddr|exact lBool1|exact Zm) rfl ?_;refine Qk ineq rfl rfl rfl rfl ?_;refine Q8 rfl rfl rfl rfl ?_;refine Qj (hK _ _ (Qz (Xw rfl (QK (Qz (Qy ?_))))));clear hK K;refine Qx (fun K hK=> ?_))
  refine QJ rfl rfl rfl (by with_reducible exact fOu1) rfl ?_
  refine Zt (n:=3) rfl rfl rfl rfl (Nat.le_of_ble_eq_true rfl) (by with_reducible exact lFrac) rfl ?_
  refine QV goFFloor hF1 rfl rfl rfl rfl ?_
  (refine Qq rfl rfl rfl ?_;refine Q0 rfl rfl rfl rfl ?_;refine Q0 rfl rfl rfl rfl ?_;refine Qv rfl rfl rfl ?_;refine Qv rfl rfl rfl ?_;refine Qj (hK _ _ (Qz (Qy ?_)));clear hK K;refine Qx (fun K hK=> ?_))
  refine QJ rfl rfl rfl (by with_reducible exact fOu1) rfl ?_
  refine Zt (n:=3) rfl rfl rfl rfl (Nat.le_of_ble_eq_true rfl) (by with_reducible exact lFrac) rfl ?_
  refine QV goFFloor hF2 rfl rfl rfl rfl ?_
  (refine Qq rfl rfl rfl ?_;refine Q0 rfl rfl rfl rfl ?_;refine Q0 rfl rfl rfl rfl ?_;refine Qv rfl rfl rfl ?_;refine Qv rfl rfl rfl ?_;refine Qj (hK _ _ (Qz (Qy (Qy ?_))));clear hK K;refine Qx (fun K hK=> ?_);refine Qq rfl rfl rfl ?_)
  refine Ops.ineg rfl rfl (by omega) (by omega) rfl ?_
  (refine Qq rfl rfl rfl ?_;refine Qk igtr rfl rfl rfl rfl ?_;refine Qj (hK _ _ (Qz ?_));clear hK K)
  refine Q2 rfl (fun g=>absurd g (by omega)) (fun _=> ?_)
  (refine QK (Qz (Qy ?_)))
  refine Yq (by with_reducible exact mixed) [6,7,8] (.p 2 (.p 3 (.p 4 (.p 5 (.f 0 (.m 1 (.a 6 (.a 7 (.a 8 (.p 9 .done) .non) .non) .non) (.a 6 (.f 1 (.a 7 (.a 8 (.p 9 .done) .non) .non)) .non))))))) (by kernel_rfl) (fun K hK=> ?_)
  refine Qs ?_
  refine Qq rfl rfl rfl ?_
  refine Qj ?_
  refine Qs ?_
  refine Ops.ineg rfl rfl (by omega) (by omega) rfl ?_
  refine Qj ?_
  refine Qs ?_
  refine Qq rfl rfl rfl ?_
  refine Qj ?_
  refine Qs ?_
  refine Qo rfl (by with_reducible exact bIv) rfl (.one rfl rfl rfl rfl (.one rfl rfl rfl rfl .nil)) rfl ?_
  refine Qj ?_
  refine Xp ?_
  refine Qe (n:=7) rfl rfl rfl rfl rfl (by with_reducible exact lOut) rfl ?_
  refine Qj ?_
  refine XK ?_ ?_
  · refine Qe (n:=7) rfl rfl rfl rfl rfl (by with_reducible exact lOut) rfl ?_
    refine Qj ?_
    refine Qn ?_ Q7
    refine Qb 7 rfl rfl rfl rfl rfl (by with_reducible exact szOut) rfl rfl ?_
    refine Qj ?_
    refine Qn ?_ Q7
    refine Qb 7 rfl rfl rfl rfl rfl (by with_reducible exact szOut) rfl rfl ?_
    refine Qj ?_
    refine Qn ?_ Q7
    refine Qb 2 rfl rfl rfl rfl rfl (by with_reducible exact szIv) rfl rfl ?_
    refine Qj ?_
    refine Qs ?_
    refine Qv rfl rfl rfl ?_
    refine Qj ?_
    refine Xv (hK _ _ ?_)
    (refine Qz (Q4 ?_))
    refine Q3 [_,_,_,_] rfl (Qh (n:=7) rfl rfl (by with_reducible exact lOut) rfl (Qh (n:=7) rfl rfl (by with_reducible exact lOut) rfl (Qh (n:=2) rfl rfl (by with_reducible exact lIv) rfl (QQ rfl QZ)))) rfl rfl
  refine Qn ?_ Q7
  refine Qb 7 rfl rfl rfl rfl rfl (by with_reducible exact szOut) rfl rfl ?_
  refine Qj ?_
  refine Xp ?_
  refine Qe (n:=7) rfl rfl rfl rfl rfl (by with_reducible exact lOut) rfl ?_
  refine Qj ?_
  refine Qn ?_ Q7
  refine Qb 7 rfl rfl rfl rfl rfl (by with_reducible exact szOut) rfl rfl ?_
  refine Qj ?_
  refine Qn ?_ Q7
  refine Qb 2 rfl rfl rfl rfl rfl (by with_reducible exact szIv) rfl rfl ?_
  refine Qj ?_
  refine Qs ?_
  refine Qv rfl rfl rfl ?_
  refine Qj ?_
  refine Xv (hK _ _ ?_)
  (refine Qz (Q4 ?_))
  refine Q3 [_,_,_,_] rfl (Qh (n:=7) rfl rfl (by with_reducible exact lOut) rfl (Qh (n:=7) rfl rfl (by with_reducible exact lOut) rfl (Qh (n:=2) rfl rfl (by with_reducible exact lIv) rfl (QQ rfl QZ)))) rfl rfl
theorem goends:InGo Tryz.prog 43:=InGo.of Tryz.func43 rfl (by decide)
set_option maxHeartbeats 8000000 in
theorem ends_fine(l:List Rs)(hl:l.length≤10000)(mo qu:Int)(w:Wr)(h0:(rwO l mo qu).2.2=0)(hw:w∈(vrO l).1)(hu:Up cmpW (vrO l).1)(hvl:(vrO l).1.length≤16){O1 O2:Oc}{p:Int × Int}(hB:Ok Tryz.prog 44 [rowsC (rwO l mo qu).1,intC (vrO l).1.length,intC (posD (vrO l).1 w)] (.fr (tupT [ocC O1,ocC O2,ivC p,intC 0]))):
    Ok Tryz.prog 43 [rssC l,tiC mo qu,wrC w] (.fr (tupT [ocC O1,ocC O2,ivC p,intC 0])):=by
  have hR:=DRows_ok l hl mo qu
  have hV:=Variables_ok l hl
  have hS:=BSearch_ok (vrO l).1 w hu (by omega)
  rw [decide_eq_true hw] at hS
  rw [h0] at hR
  generalize (rwO l mo qu).1=rs at hR hB
  generalize (rwO l mo qu).2.1=is at hR
  generalize (vrO l).2=ve at hV
  generalize posD (vrO l).1 w=k at hS hB
  generalize (vrO l).1=vs at hV hS hB
  obtain ⟨q1,⟨g1,m1,d1⟩,o1,y1,u1⟩:=O1
  obtain ⟨q2,⟨g2,m2,d2⟩,o2,y2,u2⟩:=O2
  refine Ok.enter Tryz.func43 rfl _ Tryz.ntmps43 rfl ?_
  intro S w0
  refine Qy ?_
  refine Qx (fun K hK=> ?_)
  refine XQ 3 rfl rfl rfl rfl rfl rfl rfl ?_
  refine XQ 4 rfl rfl rfl rfl rfl rfl rfl ?_
  refine Qg 0 rfl rfl (by with_reducible exact zvOut) rfl rfl rfl ?_
  refine Qg 1 rfl rfl (by with_reducible exact zvOut) rfl rfl rfl ?_
  refine Qg 2 rfl rfl (by with_reducible exact zvIv) rfl rfl rfl ?_
  (refine Qv rfl rfl rfl ?_;refine Qj (hK _ _ (Qz (Qy ?_)));clear hK K;refine Qx (fun K hK=> ?_);refine Qq rfl rfl rfl ?_)
  refine Qe (n:=2) rfl rfl rfl rfl rfl (by with_reducible exact lTi) rfl ?_
  refine QV goDRows hR rfl rfl rfl rfl ?_
  (refine Qq rfl rfl rfl ?_;refine Q0 rfl rfl rfl rfl ?_;refine Q0 rfl rfl rfl rfl ?_;refine Q0 rfl rfl rfl rfl ?_;refine Qv rfl rfl rfl ?_;refine Qv rfl rfl rfl ?_;refine Qv rfl rfl rfl ?_;refine Qj (hK _ _ (Qz (Qy (Qy ?_))));clear hK K;refine Qx (fun K hK=> ?_);refine Qq rfl rfl rfl ?_;refine Qk ineq rfl rfl rfl rfl ?_;refine Qj (hK _ _ (Qz (Xw rfl (QK (Qz (Qy ?_))))));clear hK K;refine Qx (fun K hK=> ?_);refine Qq rfl rfl rfl ?_)
  refine QV goVariables hV rfl rfl rfl rfl ?_
  (refine Qq rfl rfl rfl ?_;refine Q0 rfl rfl rfl rfl ?_;refine Q0 rfl rfl rfl rfl ?_;refine Qv rfl rfl rfl ?_;refine Qv rfl rfl rfl ?_;refine Qj (hK _ _ (Qz (Qy ?_)));clear hK K;refine Qx (fun K hK=> ?_);refine Qq rfl rfl rfl ?_;refine Qe (n:=2) rfl rfl rfl rfl rfl (by with_reducible first|exact lTrav|exact Yk|exact lCs) rfl ?_)
  refine QV goBSearch hS rfl rfl rfl rfl ?_
  (refine Qq rfl rfl rfl ?_;refine Q0 rfl rfl rfl rfl ?_;refine Q0 rfl rfl rfl rfl ?_;refine Qv rfl rfl rfl ?_;refine Qv rfl rfl rfl ?_;refine Qj (hK _ _ (Qz (Qy (Qy ?_))));clear hK K;refine Qx (fun K hK=> ?_);refine Qq rfl rfl rfl ?_;refine Xx rfl rfl rfl ?_;refine Qj (hK _ _ (Qz (Xw rfl (QK (Qz (Qy ?_))))));clear hK K;refine Qx (fun K hK=> ?_);refine Qq rfl rfl rfl ?_;refine Qq rfl rfl rfl ?_;refine Qf rfl rfl (by with_reducible first|exact sTks.und|exact sWrs.und|exact sIks.und|exact sAdrs.und) (List.length_map ..) rfl ?_;refine Qq rfl rfl rfl ?_)
  refine QV gobounds hB rfl rfl rfl rfl ?_
  (refine Q0 rfl rfl rfl rfl ?_;refine Q0 rfl rfl rfl rfl ?_;refine Q0 rfl rfl rfl rfl ?_;refine Q0 rfl rfl rfl rfl ?_)
  refine Qb 7 rfl rfl rfl rfl rfl (by with_reducible exact szOut) rfl rfl ?_
  refine Qb 7 rfl rfl rfl rfl rfl (by with_reducible exact szOut) rfl rfl ?_
  refine Qb 2 rfl rfl rfl rfl rfl (by with_reducible exact szIv) rfl rfl ?_
  (refine Qv rfl rfl rfl ?_;refine Qj (hK _ _ (Qz (Q4 ?_)));clear hK K)
  refine Q3 [_,_,_,_] rfl (Qh (n:=7) rfl rfl (by with_reducible exact lOut) rfl (Qh (n:=7) rfl rfl (by with_reducible exact lOut) rfl (Qh (n:=2) rfl rfl (by with_reducible exact lIv) rfl (QQ rfl QZ)))) rfl rfl
theorem goInterval:InGo Tryz.prog 13:=InGo.of Tryz.func13 rfl (by decide)
set_option maxHeartbeats 4000000 in
theorem Interval_fine(l:List Rs)(mo qu:Int)(w:Wr){O1 O2:Oc}{p:Int × Int}(hE:Ok Tryz.prog 43 [rssC l,tiC mo qu,wrC w] (.fr (tupT [ocC O1,ocC O2,ivC p,intC 0]))):
    Ok Tryz.prog 13 [rssC l,tiC mo qu,wrC w] (.fr (tupT [ivC p,intC 0])):=by
  obtain ⟨q1,⟨g1,m1,d1⟩,o1,y1,u1⟩:=O1
  obtain ⟨q2,⟨g2,m2,d2⟩,o2,y2,u2⟩:=O2
  refine Ok.enter Tryz.func13 rfl _ Tryz.ntmps13 rfl ?_
  intro S w0
  refine Qy ?_
  refine Qx (fun K hK=> ?_)
  refine XQ 3 rfl rfl rfl rfl rfl rfl rfl ?_
  refine XQ 4 rfl rfl rfl rfl rfl rfl rfl ?_
  refine Qg 0 rfl rfl (by with_reducible exact zvIv) rfl rfl rfl ?_
  (refine Qv rfl rfl rfl ?_;refine Qj (hK _ _ (Qz (Qy ?_)));clear hK K;refine Qx (fun K hK=> ?_);refine Qq rfl rfl rfl ?_)
  refine Qe (n:=2) rfl rfl rfl rfl rfl (by with_reducible exact lTi) rfl ?_
  (refine Qe (n:=2) rfl rfl rfl rfl rfl (by with_reducible first|exact lTrav|exact Yk|exact lCs) rfl ?_)
  refine QV goends hE rfl rfl rfl rfl ?_
  (refine Qq rfl rfl rfl ?_;refine Q0 rfl rfl rfl rfl ?_;refine Q0 rfl rfl rfl rfl ?_;refine Q0 rfl rfl rfl rfl ?_;refine Q0 rfl rfl rfl rfl ?_)
  refine Qg 5 rfl rfl (by with_reducible exact zvOut) rfl rfl rfl ?_
  refine Qg 6 rfl rfl (by with_reducible exact zvOut) rfl rfl rfl ?_
  refine Qg 7 rfl rfl (by with_reducible exact zvIv) rfl rfl rfl ?_
  refine Qb 7 rfl rfl rfl rfl rfl (by with_reducible exact szOut) rfl rfl ?_
  refine Qb 7 rfl rfl rfl rfl rfl (by with_reducible exact szOut) rfl rfl ?_
  refine Qb 2 rfl rfl rfl rfl rfl (by with_reducible exact szIv) rfl rfl ?_
  (refine Qv rfl rfl rfl ?_;refine Qj (hK _ _ (Qz (Qy ?_)));clear hK K;refine Qx (fun K hK=> ?_))
  refine Qe (n:=2) rfl rfl rfl rfl rfl (by with_reducible exact lIv) rfl ?_
  (refine Qq rfl rfl rfl ?_)
  refine Qb 2 rfl rfl rfl rfl rfl (by with_reducible exact szIv) rfl rfl ?_
  (refine Qv rfl rfl rfl ?_;refine Qj (hK _ _ (Qz (Q4 ?_)));clear hK K)
  refine Q3 [_,_] rfl (Qh (n:=2) rfl rfl (by with_reducible exact lIv) rfl (QQ rfl QZ)) rfl rfl
end Go.Proofs.YtojkdfilabmafaaGreat
namespace Go.Proofs.YtojkdfilabmafaaGreat
open Go.Own Go.Limbs
section
variable {d : List Int} {mo qu : Int}
theorem posD_wks{n i:Nat}(hn:n≤16)(hi:i<n):posD (wks 1 n) (wk (1+(i:Int)))=i:=by
  have hm:wk (1+(i:Int))∈wks 1 n:=wks_mem.2 ⟨i,hi,rfl⟩
  obtain ⟨h1,h2⟩:=(posD_at (wks_up (c:=n) (by omega))).1 hm
  generalize posD (wks 1 n) (wk (1+(i:Int)))=k at h1 h2
  rw [wks_len] at h1
  have e:(wks 1 n).getD k wr0=wk (1+(k:Int)):=by
    unfold wks
    rw [List.getD_eq_getElem?_getD,List.getElem?_map,List.getElem?_range h1];rfl
  rw [e] at h2
  exact wk_inj (by omega) (by omega) h2
theorem yF_rwO(hd:d.length≤16)(hT:∀T∈d,0≤T∧T≤1000000)(ht:tiB mo qu=true):∃is,rwO (yF 0 d) mo qu=(rowsY d mo qu,is,0):=by
  have hm:(msF (yF 0 d)).length=d.length:=by rw [yF_ms (by omega) hT,List.length_map,yF_len]
  have hv:=yF_vrO hd hT
  unfold rwO
  rw [hv]
  dsimp only
  rw [if_neg (by rw [ht];decide),if_neg (fun h=>h rfl),if_neg (by rw [wks_len,hm];omega)]
  exact ⟨_,rfl⟩
theorem yF_rows_ok(hd:d.length≤16)(hT:∀T∈d,0≤T∧T≤1000000)(ht:tiB mo qu=true):validR (d.length:Int) (rowsY d mo qu)=true:=by
  have hm:(msF (yF 0 d)).length=d.length:=by rw [yF_ms (by omega) hT,List.length_map,yF_len]
  have h:=rowsD_valid (vs:=wks 1 d.length) (ms:=msF (yF 0 d)) (mo:=mo) (qu:=qu) (by rw [wks_len];omega) (by rw [wks_len,hm];omega) (fun m hmm=>⟨me_wires _ m hmm,(me_time _ m hmm).2⟩) ht
  rw [wks_len] at h
  exact h
theorem Interval_chain(hd:d.length≤16)(hT:∀T∈d,0≤T∧T≤1000000)(ht:tiB mo qu=true)(hG:Gap d mo qu){i:Nat}(hi:i<d.length):
    Ok Tryz.prog 13 [rssC (yF 0 d),tiC mo qu,wrC (wk (1+(i:Int)))] (.fr (tupT [ivC (loY d qu i,hiY d qu i),intC 0])):=by
  have hrv:=yF_rows_ok hd hT ht
  have hrl:=rowsY_len (mo:=mo) (qu:=qu) hd hT
  obtain ⟨is,hrw⟩:=yF_rwO hd hT ht
  have hvr:=yF_vrO hd hT
  obtain ⟨O1,s1,k1⟩:=Solve_any hrv (unL_ok hi (f:= -1) (.inr rfl))
  obtain ⟨O2,s2,k2⟩:=Solve_any hrv (unL_ok hi (f:=1) (.inl rfl))
  obtain ⟨a1,b1⟩:=lo_sol hd hT hG hi s1
  obtain ⟨a2,b2⟩:=hi_sol hd hT hG hi s2
  have l1:=sol_len s1 (by omega)
  have l2:=sol_len s2 (by omega)
  have tb:∀t,t≤d.length→0≤tmT d t∧tmT d t≤1000000:=fun t ht=>by
    cases t with
    |zero=>rw [tmT_zero];exact ⟨by decide,by decide⟩
    |succ t=>
      rw [tmT_succ]
      exact hT _ (by rw [List.getD_eq_getElem?_getD,List.getElem?_eq_getElem (by omega)];exact List.getElem_mem _)
  have ht2:0≤mo∧mo≤1073741824∧0≤qu∧qu≤1073741824:=of_decide_eq_true ht
  have t1:=tb i (by omega)
  have t2:=tb (i+1) (by omega)
  have hlo: -2000000000≤loY d qu i∧loY d qu i≤2000000000:=by unfold loY;omega
  have hhi: -2000000000≤hiY d qu i∧hiY d qu i≤3000000000:=by unfold hiY;split <;>omega
  have hll:loY d qu i≤hiY d qu i:=by unfold loY hiY;split <;>omega
  have f1:=flV_btw b1 (by omega) (by omega)
  have f2:=flV_btw b2 (by omega) (by omega)
  have e1:flV O1.value= -loY d qu i:=by omega
  have e2:flV O2.value=hiY d qu i:=by omega
  have hB:=bounds_fine d.length i hi hd (rowsY d mo qu) O1 O2 k1 k2 ⟨a1,l1.1,l1.2.1,l1.2.2 a1⟩ ⟨a2,l2.1,l2.2.1,l2.2.2 a2⟩ (by omega)
  rw [e1,e2,Int.neg_neg] at hB
  refine Interval_fine (yF 0 d) mo qu _ (O1:=O1) (O2:=O2) (ends_fine (yF 0 d) (by rw [yF_len];omega) mo qu _ (by rw [hrw]) (by rw [hvr];exact wks_mem.2 ⟨i,hi,rfl⟩) (by rw [hvr];exact wks_up (by omega)) (by rw [hvr];dsimp only;rw [wks_len];exact hd) ?_)
  rw [hrw,hvr]
  dsimp only
  rw [wks_len,posD_wks hd hi]
  exact hB
end
attribute [local irreducible] Go.Own.Fin Ok OkB OkF OkL OkM OkN OkT Ops St
theorem goreply:InGo Tryz.prog 14:=InGo.of Tryz.func14 rfl (by decide)
set_option maxHeartbeats 4000000 in
theorem reply_ok(n t T:Int)(h1:0≤n∧n≤1000)(h2:0≤T∧T≤1000000):Ok Tryz.prog 14 [intC n,intC t,intC T,adrF (adN t)] (rsC (rpY n t T)):=by
  refine Ok.enter Tryz.func14 rfl _ Tryz.ntmps14 rfl ?_
  intro S w
  (refine Qy (Qx fun K hK=> ?_);refine Qg 0 rfl rfl (by with_reducible exact zvRes) rfl rfl rfl ?_;refine Qj (hK _ _ (Qz (Qy ?_)));clear hK K;refine Qx (fun K hK=> ?_);refine Qq rfl rfl rfl ?_;refine Qq rfl rfl rfl ?_;refine Qk (imul (by omega) (by omega)) rfl rfl rfl rfl ?_;refine Qq rfl rfl rfl ?_;refine Qq rfl rfl rfl ?_;refine Qk (imul (by omega) (by omega)) rfl rfl rfl rfl ?_;refine Qq rfl rfl rfl ?_;refine Qk (iadd (by omega) (by omega)) rfl rfl rfl rfl ?_;refine Qq rfl rfl rfl ?_)
  refine Qo rfl (by with_reducible exact bAns) rfl (.one rfl rfl rfl rfl (.one rfl rfl rfl rfl .nil)) rfl ?_
  refine Qo rfl (by with_reducible exact bRes) rfl (.one rfl rfl rfl rfl (.one rfl rfl rfl rfl (.one rfl rfl rfl rfl (.one rfl rfl rfl rfl (.one rfl rfl rfl rfl (.one rfl rfl rfl rfl (.one rfl rfl rfl rfl (.agg rfl rfl rfl rfl .nil)))))))) rfl ?_
  (refine Qb 17 rfl rfl rfl rfl rfl (by with_reducible exact szRes) rfl rfl ?_;refine Qj (hK _ _ (Qz (Q4 ?_)));clear hK K)
  refine Q3 [_] rfl (Qh (n:=17) rfl rfl (by with_reducible exact lRes) rfl QZ) rfl rfl
theorem bTi:bInfo Tryz.prog 32=some (.agg #[.int .i64 0, .int .i64 0],[(0,some 1),(1,some 1)]):=by kernel_rfl
theorem szTi:(Tryz.prog.info? 32).map (·.size)=some 2:=by kernel_rfl
theorem zvTi:(Tryz.prog.info? 32).map (·.zero)=some (some (.agg #[.int .i64 0, .int .i64 0])):=by kernel_rfl
theorem eIv:EqS Tryz.prog 39 [.i64, .i64]:=⟨by kernel_rfl,by kernel_rfl,by kernel_rfl,by kernel_rfl⟩
section
variable {X : Ctx} {L : AL} {B : BL} {ops : Array Oper} {K : Act → World → Prop} {r : Pl} {k : Kd}
  {x y z : Operand} {d : Nat} {t t2 t' : TypeId} {pos : String} {af : Array Edge} {g : Option (Nat × Bool)}
theorem eqIvT(p:Int × Int)(hg:gd ops L g=some true)(hx:ev L x=some (.ct (.fr (aggT (ivCs p)))))(hy:ev L y=some (.ct (.fr (aggT (ivCs p)))))(hP:X.P=Tryz.prog)(hn:Nat.blt d X.n=true)
    (h:Ops X ops r ((d, .ct (boolC true))::L) B K):Ops X ops (.cons ⟨some d, .binOp .eql 39 x y t2,t',pos,af,g⟩ k r) L B K:=
  Ops.eqS (ks:=[.i64, .i64]) [p.1,p.2] [p.1,p.2] hg hx hy rfl rfl (hP▸eIv) hn (by rw [decide_eq_true rfl];exact h)
end
theorem goDAwake:InGo Tryz.prog 9:=InGo.of Tryz.func9 rfl (by decide)
set_option maxHeartbeats 8000000 in
theorem DAwake_ok:Ok Tryz.prog 9 [] (boolC true):=by
  have hr1:Ok Tryz.prog 14 [intC 0,intC 1,intC 10, .ex (.int .u32 1)] (rsC (rpY 0 1 10)):=reply_ok 0 1 10 (by decide) (by decide)
  have hr2:Ok Tryz.prog 14 [intC 1,intC 2,intC 25, .ex (.int .u32 2)] (rsC (rpY 1 2 25)):=reply_ok 1 2 25 (by decide) (by decide)
  have hT:∀T∈ [(10:Int),25],0≤T∧T≤1000000:=by decide
  have hti:tiB 100 2=true:=by decide
  have hG:Gap [(10:Int),25] 100 2:=⟨by decide,fun t ht=>by
    have:t=0∨t=1:=by have:t<2:=ht;omega
    rcases this with rfl|rfl <;>decide⟩
  have hI1:Ok Tryz.prog 13 [rssC (yF 0 [10,25]),tiC 100 2,wrC (0,1)] (.fr (tupT [ivC (8,10),intC 0])):=Interval_chain (d:=[10,25]) (by decide) hT hti hG (i:=0) (by decide)
  have hI2:Ok Tryz.prog 13 [rssC (yF 0 [10,25]),tiC 100 2,wrC (1,2)] (.fr (tupT [ivC (13,17),intC 0])):=Interval_chain (d:=[10,25]) (by decide) hT hti hG (i:=1) (by decide)
  have hV:=Variables_ok (yF 0 [10,25]) (by decide)
  rw [yF_vrO (d:=[10,25]) (by decide) hT] at hV
  have hVl:(wks 1 [(10:Int),25].length).length=2:=wks_len 2
  dsimp only at hV
  generalize wks 1 [(10:Int),25].length=vs at hV hVl
  have hD:=DValid_ok 100 2
  rw [hti] at hD
  have hl:CT.fr (sliceT 17 [rsCs (rpY 0 1 10),rsCs (rpY 1 2 25)])=rssC (yF 0 [10,25]):=rfl
  rw [←hl] at hI1 hI2 hV
  refine Ok.enter Tryz.func9 rfl _ Tryz.ntmps9 rfl ?_
  intro S w
  (refine Qy (Qx fun K hK=> ?_);refine Qv rfl rfl rfl ?_;refine Qj (hK _ _ (Qz (Qy ?_)));clear hK K;refine Qx (fun K hK=> ?_))
  refine QV goreply hr1 rfl rfl rfl rfl ?_
  refine QV goreply hr2 rfl rfl rfl rfl ?_
  refine Ops.lit (m:=2) (n:=17) (cs:=rsCs (rpY 0 1 10)++rsCs (rpY 1 2 25)) rfl rfl (by with_reducible exact sRes) (.agg rfl rfl rfl rfl (.agg rfl rfl rfl rfl .nil)) (by decide) rfl ?_
  (refine Qv rfl rfl rfl ?_;refine Qj (hK _ _ (Qz (Qy ?_)));clear hK K;refine Qx (fun K hK=> ?_))
  refine Qo rfl (by with_reducible exact bTi) rfl (.one rfl rfl rfl rfl (.one rfl rfl rfl rfl .nil)) rfl ?_
  refine Qg 0 rfl rfl (by with_reducible exact zvTi) rfl rfl rfl ?_
  refine Qb 2 rfl rfl rfl rfl rfl (by with_reducible exact szTi) rfl rfl ?_
  (refine Qj (hK _ _ (Qz (Qy ?_)));clear hK K;refine Qx (fun K hK=> ?_);refine Qq rfl rfl rfl ?_)
  refine Qe (n:=2) rfl rfl rfl rfl rfl (by with_reducible exact lTi) rfl ?_
  refine Qo rfl (by with_reducible exact bWire) rfl (.one rfl rfl rfl rfl .nil) rfl ?_
  refine QV goInterval hI1 rfl rfl rfl rfl ?_
  (refine Qq rfl rfl rfl ?_;refine Q0 rfl rfl rfl rfl ?_;refine Q0 rfl rfl rfl rfl ?_)
  refine Qg 1 rfl rfl (by with_reducible exact zvIv) rfl rfl rfl ?_
  refine Qb 2 rfl rfl rfl rfl rfl (by with_reducible exact szIv) rfl rfl ?_
  (refine Qv rfl rfl rfl ?_;refine Qj (hK _ _ (Qz (Qy ?_)));clear hK K;refine Qx (fun K hK=> ?_);refine Qq rfl rfl rfl ?_)
  refine Qe (n:=2) rfl rfl rfl rfl rfl (by with_reducible exact lTi) rfl ?_
  refine Qo rfl (by with_reducible exact bWire) rfl (.one rfl rfl rfl rfl (.one rfl rfl rfl rfl .nil)) rfl ?_
  refine QV goInterval hI2 rfl rfl rfl rfl ?_
  (refine Qq rfl rfl rfl ?_;refine Q0 rfl rfl rfl rfl ?_;refine Q0 rfl rfl rfl rfl ?_)
  refine Qg 2 rfl rfl (by with_reducible exact zvIv) rfl rfl rfl ?_
  refine Qb 2 rfl rfl rfl rfl rfl (by with_reducible exact szIv) rfl rfl ?_
  (refine Qv rfl rfl rfl ?_;refine Qj (hK _ _ (Qz (Qy ?_)));clear hK K;refine Qx (fun K hK=> ?_);refine Qq rfl rfl rfl ?_)
  refine QV goVariables hV rfl rfl rfl rfl ?_
  (refine Qq rfl rfl rfl ?_;refine Q0 rfl rfl rfl rfl ?_;refine Q0 rfl rfl rfl rfl ?_;refine Qv rfl rfl rfl ?_;refine Qv rfl rfl rfl ?_;refine Qj (hK _ _ (Qz (Qy ?_)));clear hK K;refine Qx (fun K hK=> ?_);refine Qq rfl rfl rfl ?_;refine Qk ieql rfl rfl rfl rfl ?_;refine Qq rfl rfl rfl ?_)
  refine Qe (n:=2) rfl rfl rfl rfl rfl (by with_reducible exact lIv) rfl ?_
  refine Qo rfl (by with_reducible exact bIv) rfl (.one rfl rfl rfl rfl (.one rfl rfl rfl rfl .nil)) rfl ?_
  refine eqIvT (8,10) rfl rfl rfl rfl rfl ?_
  (refine Q5 rfl rfl rfl rfl ?_;refine Qq rfl rfl rfl ?_;refine Qq rfl rfl rfl ?_;refine Qk ieql rfl rfl rfl rfl ?_;refine Q5 rfl rfl rfl rfl ?_;refine Qq rfl rfl rfl ?_)
  refine Qe (n:=2) rfl rfl rfl rfl rfl (by with_reducible exact lIv) rfl ?_
  refine Qo rfl (by with_reducible exact bIv) rfl (.one rfl rfl rfl rfl (.one rfl rfl rfl rfl .nil)) rfl ?_
  refine eqIvT (13,17) rfl rfl rfl rfl rfl ?_
  (refine Q5 rfl rfl rfl rfl ?_;refine Qq rfl rfl rfl ?_;refine Qq rfl rfl rfl ?_;refine Qk ieql rfl rfl rfl rfl ?_;refine Q5 rfl rfl rfl rfl ?_;refine Qq rfl rfl rfl ?_;refine Qq rfl rfl rfl ?_;refine Qf rfl rfl (by with_reducible first|exact sTks.und|exact sWrs.und|exact sIks.und|exact sAdrs.und) (List.length_map ..) rfl ?_;refine Qk ieql rfl rfl rfl rfl ?_;refine Q5 rfl rfl rfl rfl ?_;refine Qq rfl rfl rfl ?_)
  refine Qi 57 rfl (fun _=> ?_) (fun g=>absurd (by show ((vs.length:Nat):Int)=2;omega) g)
  refine Qe (n:=2) rfl rfl rfl rfl rfl (by with_reducible exact lTi) rfl ?_
  refine QV goDValid hD rfl rfl rfl rfl ?_
  (refine Q5 rfl rfl rfl rfl ?_;refine Qv rfl rfl rfl ?_;refine Qj (hK _ _ (Qz (Q4 ?_)));clear hK K)
  refine Q3 [_] rfl (QQ rfl QZ) rfl rfl
attribute [local irreducible] OkMv
def tmK (ws : List Wr) (ts : List Int) (w : Wr) : Nat → Int
  | 0 => 0
  | k + 1 => if ws.getD k wr0 = w then tmK ws ts w k + ts.getD k 0 else tmK ws ts w k
def prA (p : List Ad) : Nat → Ad
  | 0 => 0
  | i + 1 => p.getD i 0
def smK (ws : List Wr) (ts : List Int) (p : List Ad) : Nat → Int
  | 0 => 0
  | i + 1 => smK ws ts p i + tmK ws ts (prA p i, p.getD i 0) ws.length
def rpG (n t T : Int) (a : Ad) : Rs := ⟨0, 0, n, 100 * n, 9, 17, 0, t, true, false, 100 * n + T, a, 1, 0, 0, 0, 0⟩
def rpH (f n t T : Int) (a : Ad) : Rs := ⟨0, 0, n, 1000 * n, 9, 17, f, t, true, false, 1000 * n + T, a, 1, 0, 0, 0, 0⟩
theorem tmK_bd{ws:List Wr}{ts:List Int}(hts:∀x∈ts,0≤x∧x≤60)(w:Wr):∀k,0≤tmK ws ts w k∧tmK ws ts w k≤60*k
  |0=>⟨Int.le_refl _,Int.le_refl _⟩
  |k+1=>by
    have h:=tmK_bd (ws:=ws) hts w k
    have h2:0≤ts.getD k 0∧ts.getD k 0≤60:=by
      rw [List.getD_eq_getElem?_getD]
      cases e:ts[k]? with
      |none=>exact ⟨Int.le_refl _,by decide⟩
      |some x=>exact hts x (List.mem_of_getElem? e)
    unfold tmK
    split <;>omega
theorem smK_bd{ws:List Wr}{ts:List Int}(hts:∀x∈ts,0≤x∧x≤60)(hws:ws.length≤16)(p:List Ad):∀i,0≤smK ws ts p i∧smK ws ts p i≤960*i
  |0=>⟨Int.le_refl _,Int.le_refl _⟩
  |i+1=>by
    have h:=smK_bd hts hws p i
    have h2:=tmK_bd (ws:=ws) hts (prA p i,p.getD i 0) ws.length
    unfold smK
    omega
theorem lPCod:Ld1 Tryz.prog 29:=Ld1.of _ Tryz.underlying29 rfl
theorem zRess:(Tryz.prog.info? 24).map (·.size)=some 1:=by kernel_rfl
set_option maxHeartbeats 4000000 in
theorem replyG_ok(n t T:Int)(a:Ad)(h1:0≤n∧n≤1000)(h2:0≤T∧T≤1000000):Ok Tryz.prog 14 [intC n,intC t,intC T,adrF a] (rsC (rpG n t T a)):=by
  refine Ok.enter Tryz.func14 rfl _ Tryz.ntmps14 rfl ?_
  intro S w
  (refine Qy (Qx fun K hK=> ?_);refine Qg 0 rfl rfl (by with_reducible exact zvRes) rfl rfl rfl ?_;refine Qj (hK _ _ (Qz (Qy ?_)));clear hK K;refine Qx (fun K hK=> ?_);refine Qq rfl rfl rfl ?_;refine Qq rfl rfl rfl ?_;refine Qk (imul (by omega) (by omega)) rfl rfl rfl rfl ?_;refine Qq rfl rfl rfl ?_;refine Qq rfl rfl rfl ?_;refine Qk (imul (by omega) (by omega)) rfl rfl rfl rfl ?_;refine Qq rfl rfl rfl ?_;refine Qk (iadd (by omega) (by omega)) rfl rfl rfl rfl ?_;refine Qq rfl rfl rfl ?_)
  refine Qo rfl (by with_reducible exact bAns) rfl (.one rfl rfl rfl rfl (.one rfl rfl rfl rfl .nil)) rfl ?_
  refine Qo rfl (by with_reducible exact bRes) rfl (.one rfl rfl rfl rfl (.one rfl rfl rfl rfl (.one rfl rfl rfl rfl (.one rfl rfl rfl rfl (.one rfl rfl rfl rfl (.one rfl rfl rfl rfl (.one rfl rfl rfl rfl (.agg rfl rfl rfl rfl .nil)))))))) rfl ?_
  (refine Qb 17 rfl rfl rfl rfl rfl (by with_reducible exact szRes) rfl rfl ?_;refine Qj (hK _ _ (Qz (Q4 ?_)));clear hK K)
  refine Q3 [_] rfl (Qh (n:=17) rfl rfl (by with_reducible exact lRes) rfl QZ) rfl rfl
abbrev trB (ps : List (List Ad)) (ws : List Wr) (ts : List Int) (vc : Value) (q : Int) (bs : List Int) (ho : Value) (out : List Rs) (c : Nat) : BL :=
  [(13, .box 94 [pthsC ps]), (10, .box 25 [wrsC ws]), (11, .box 26 [intsC ts]), (12, .box 24 [.ex ho]), (22, .rowx ho 47 17 (rss out)), (9, .box 29 [.ex vc]), (0, .box 98 (codes bs c)), (4, .box 3 [intC q])]
theorem gotruth1:InGo Tryz.prog 41:=InGo.of Tryz.func41 rfl (by decide)
set_option maxHeartbeats 16000000 in
set_option maxRecDepth 20000 in
theorem truth1_ok(bs:List Int)(hb:Bytes bs)(ps:List (List Ad))(ws:List Wr)(ts:List Int)(f t q:Int)(out:List Rs)(c0:Nat)(vc ho v13 v10 v11 v12 v9 v4:Value)
    (hf:0≤f∧f<ps.length) (hps:ps.length≤16) (hpl:(ps.getD f.toNat []).length≤16) (ht:1≤t∧t≤(ps.getD f.toNat []).length) (hws:ws.length=ts.length) (hwl:ws.length≤16)
    (hts:∀x∈ts,0≤x∧x≤60) (hq:0≤q∧q≤100) (hol:out.length≤100):
    OkMv Tryz.prog 41 [.ct (intC f), .ct (intC t), .own 13, .own 10, .own 11, .own 12, .own 9, .own 4] (trB ps ws ts vc q bs ho out c0) [(13,v13),(10,v10),(11,v11),(12,v12),(9,v9),(0,vc),(4,v4)]
      (fun x:Int × Nat × Value=>((0≤x.1∧x.1≤q)∧x.2.2.oneCell' =true)∧(x.1,x.2.1)=nxt bs c0 (q+1)) (fun _=> .ct (retC []))
      (fun x=>trB ps ws ts vc q bs x.2.2 (out++ [rpH f out.length t (smK ws ts (ps.getD f.toNat []) t.toNat+x.1) ((ps.getD f.toNat []).getD (t - 1).toNat 0)]) x.2.1):=by
  have hpA:=pths_at (ps:=ps) hf.1 hf.2
  generalize hp:ps.getD f.toNat []=p at*
  have hsB:=smK_bd hts hwl p
  have htB:=tmK_bd (ws:=ws) hts
  refine OkMv.enter Tryz.func41 rfl _ Tryz.ntmps41 rfl (fun i hi=>by simp only [List.map_cons,List.map_nil,List.mem_cons,List.not_mem_nil,or_false] at hi;rcases hi with rfl|rfl|rfl|rfl|rfl|rfl|rfl <;>rfl) ?_
  intro S w ρ0 hbor hv
  have e0:ρ0 0=vc:=hv (0,vc) (by simp)
  clear hv
  have htk:(p.take t.toNat).length=t.toNat:=by rw [List.length_take];omega
  (refine Qy (Qx fun K hK=> ?_);refine Qv rfl rfl rfl ?_;refine Qv rfl rfl rfl ?_;refine Qj (hK _ _ (Qz (Qy (Qy ?_))));clear hK K;refine Qx (fun K hK=> ?_))
  refine Zk rfl rfl rfl rfl rfl (by with_reducible exact lPths) rfl ?_
  (refine Qq rfl rfl rfl ?_)
  refine Qt rfl rfl rfl (by with_reducible exact sPths) (by omega) hpA rfl ?_
  refine XU rfl rfl rfl (by with_reducible exact lAdrs) rfl ?_
  (refine Qq rfl rfl rfl ?_)
  refine Ops.cutHi rfl rfl rfl (by with_reducible exact sAdrs) (by omega) (by rw [List.length_map];omega) rfl ?_
  rw [←List.map_take]
  (refine Qf rfl rfl (by with_reducible first|exact sTks.und|exact sWrs.und|exact sIks.und|exact sAdrs.und) (List.length_map ..) rfl ?_;refine Qq rfl rfl rfl ?_;refine Qj (hK _ _ (Qz (Q1 ?_)));clear hK K)
  rw [htk]
  refine Qr (α:=Nat) (fun i=>i≤t.toNat)
    (fun i=>[(0, .ct (intC f)),(1, .ct (intC t)),(2, .own 13),(3, .own 10),(4, .own 11),(5, .own 12),(6, .own 9),(7, .own 4),(10, .ct (intC (smK ws ts p i))),(11, .ct (adrF (prA p i))),(22, .ct (adrsC (p.take t.toNat))),(23, .ct (intC t.toNat)),(24, .ct (intC i))])
    (fun _=>trB ps ws ts vc q bs ho out c0) (fun i=>t.toNat - i) 0 (Nat.zero_le _) (by exact Qu rfl ⟨rfl,rfl,rfl,rfl,rfl,rfl,rfl,rfl,rfl,rfl,rfl,rfl,rfl,trivial⟩) ?_
  intro i hi
  have hB:=hsB i
  try dsimp only at hi ⊢
  (refine Qy (Qx fun K hK=> ?_);refine Qk ilss rfl rfl rfl rfl ?_;refine Qj (hK _ _ (Qz (Qy ?_)));clear hK K)
  refine Q2 rfl (fun h=> ?_) (fun h=> ?_)
  rotate_left
  · have hi' :i=t.toNat:=by omega
    clear htk
    subst hi'
    generalize smK ws ts p t.toNat=s at hB ⊢
    (refine Qm (Qz (Qy ?_)))
    refine YJ (α:=Int × Nat) (fun x=>(0≤x.1∧x.1<q+1)∧x=nxt bs c0 (q+1)) (fun _=>[(0, .ct (intC f)),(5, .own 12),(16, .own 1)])
      (fun x=>(1, .box 47 (rsCs (rpG out.length t (s+x.1) (p.getD (t - 1).toNat 0))))::trB ps ws ts vc q bs ho out x.2) (fun x hx=> ?_) (fun KN hM=> ?_)
    rotate_left
    · refine Yq (by with_reducible exact mixed) [7,19] (.p 2 (.p 3 (.p 10 (.p 13 (.p 14 (.f 4 (.f 5 (.p 6 (.m 0 (.p 1 (.a 7 (.p 8 (.f 9 (.p 11 (.f 12 (.p 15 (.f 16 (.m 17 (.m 18 (.a 19 .done .non) .non) (.m 18 (.m 17 (.a 19 .done .non) .non) .non)))))))) (.m 9 (.p 11 (.a 7 (.p 8 (.f 12 (.p 15 (.f 16 (.m 17 (.m 18 (.a 19 .done .non) .non) (.m 18 (.m 17 (.a 19 .done .non) .non) .non)))))) (.m 12 (.p 15 (.a 7 (.p 8 (.f 16 (.m 17 (.m 18 (.a 19 .done .non) .non) (.m 18 (.m 17 (.a 19 .done .non) .non) .non)))) (.m 16 (.a 7 (.p 8 (.m 17 (.m 18 (.a 19 .done .non) .non) (.m 18 (.m 17 (.a 19 .done .non) .non) .non))) (.m 18 (.a 7 (.p 8 (.m 17 (.a 19 .done .non) .non)) .non) .non)) (.m 18 (.a 7 (.p 8 (.f 16 (.m 17 (.a 19 .done .non) .non))) (.m 16 (.a 7 (.p 8 (.m 17 (.a 19 .done .non) .non)) .non) .non)) .non)))) (.m 18 (.a 7 (.p 8 (.f 12 (.p 15 (.f 16 (.m 17 (.a 19 .done .non) .non))))) (.m 12 (.p 15 (.a 7 (.p 8 (.f 16 (.m 17 (.a 19 .done .non) .non))) (.m 16 (.a 7 (.p 8 (.m 17 (.a 19 .done .non) .non)) .non) .non))) .non)) .non)))) (.m 18 (.a 7 (.p 8 (.f 9 (.p 11 (.f 12 (.p 15 (.f 16 (.m 17 (.a 19 .done .non) .non))))))) (.m 9 (.p 11 (.a 7 (.p 8 (.f 12 (.p 15 (.f 16 (.m 17 (.a 19 .done .non) .non))))) (.m 12 (.p 15 (.a 7 (.p 8 (.f 16 (.m 17 (.a 19 .done .non) .non))) (.m 16 (.a 7 (.p 8 (.m 17 (.a 19 .done .non) .non)) .non) .non))) .non))) .non)) .non)))) (.a 7 (.p 8 (.f 0 (.p 1 (.f 9 (.p 11 (.f 12 (.p 15 (.f 16 (.m 17 (.m 18 (.a 19 .done .non) .non) (.m 18 (.m 17 (.a 19 .done .non) .non) .non)))))))))) (.m 9 (.p 11 (.m 0 (.p 1 (.a 7 (.p 8 (.f 12 (.p 15 (.f 16 (.m 17 (.m 18 (.a 19 .done .non) .non) (.m 18 (.m 17 (.a 19 .done .non) .non) .non)))))) (.m 12 (.p 15 (.a 7 (.p 8 (.f 16 (.m 17 (.m 18 (.a 19 .done .non) .non) (.m 18 (.m 17 (.a 19 .done .non) .non) .non)))) (.m 16 (.a 7 (.p 8 (.m 17 (.m 18 (.a 19 .done .non) .non) (.m 18 (.m 17 (.a 19 .done .non) .non) .non))) (.m 18 (.a 7 (.p 8 (.m 17 (.a 19 .done .non) .non)) .non) .non)) (.m 18 (.a 7 (.p 8 (.f 16 (.m 17 (.a 19 .done .non) .non))) (.m 16 (.a 7 (.p 8 (.m 17 (.a 19 .done .non) .non)) .non) .non)) .non)))) (.m 18 (.a 7 (.p 8 (.f 12 (.p 15 (.f 16 (.m 17 (.a 19 .done .non) .non))))) (.m 12 (.p 15 (.a 7 (.p 8 (.f 16 (.m 17 (.a 19 .done .non) .non))) (.m 16 (.a 7 (.p 8 (.m 17 (.a 19 .done .non) .non)) .non) .non))) .non)) .non)))) (.a 7 (.p 8 (.f 0 (.p 1 (.f 12 (.p 15 (.f 16 (.m 17 (.m 18 (.a 19 .done .non) .non) (.m 18 (.m 17 (.a 19 .done .non) .non) .non)))))))) (.m 12 (.p 15 (.m 0 (.p 1 (.a 7 (.p 8 (.f 16 (.m 17 (.m 18 (.a 19 .done .non) .non) (.m 18 (.m 17 (.a 19 .done .non) .non) .non)))) (.m 16 (.a 7 (.p 8 (.m 17 (.m 18 (.a 19 .done .non) .non) (.m 18 (.m 17 (.a 19 .done .non) .non) .non))) (.m 18 (.a 7 (.p 8 (.m 17 (.a 19 .done .non) .non)) .non) .non)) (.m 18 (.a 7 (.p 8 (.f 16 (.m 17 (.a 19 .done .non) .non))) (.m 16 (.a 7 (.p 8 (.m 17 (.a 19 .done .non) .non)) .non) .non)) .non)))) (.a 7 (.p 8 (.f 0 (.p 1 (.f 16 (.m 17 (.m 18 (.a 19 .done .non) .non) (.m 18 (.m 17 (.a 19 .done .non) .non) .non)))))) (.m 16 (.m 0 (.p 1 (.a 7 (.p 8 (.m 17 (.m 18 (.a 19 .done .non) .non) (.m 18 (.m 17 (.a 19 .done .non) .non) .non))) (.m 18 (.a 7 (.p 8 (.m 17 (.a 19 .done .non) .non)) .non) .non))) (.a 7 (.p 8 (.f 0 (.p 1 (.m 17 (.m 18 (.a 19 .done .non) .non) (.m 18 (.m 17 (.a 19 .done .non) .non) .non))))) (.m 18 (.m 0 (.p 1 (.a 7 (.p 8 (.m 17 (.a 19 .done .non) .non)) .non)) (.a 7 (.p 8 (.f 0 (.p 1 (.m 17 (.a 19 .done .non) .non)))) .non)) .non))) (.m 18 (.m 0 (.p 1 (.a 7 (.p 8 (.f 16 (.m 17 (.a 19 .done .non) .non))) (.m 16 (.a 7 (.p 8 (.m 17 (.a 19 .done .non) .non)) .non) .non))) (.a 7 (.p 8 (.f 0 (.p 1 (.f 16 (.m 17 (.a 19 .done .non) .non))))) (.m 16 (.m 0 (.p 1 (.a 7 (.p 8 (.m 17 (.a 19 .done .non) .non)) .non)) (.a 7 (.p 8 (.f 0 (.p 1 (.m 17 (.a 19 .done .non) .non)))) .non)) .non))) .non))))) (.m 18 (.m 0 (.p 1 (.a 7 (.p 8 (.f 12 (.p 15 (.f 16 (.m 17 (.a 19 .done .non) .non))))) (.m 12 (.p 15 (.a 7 (.p 8 (.f 16 (.m 17 (.a 19 .done .non) .non))) (.m 16 (.a 7 (.p 8 (.m 17 (.a 19 .done .non) .non)) .non) .non))) .non))) (.a 7 (.p 8 (.f 0 (.p 1 (.f 12 (.p 15 (.f 16 (.m 17 (.a 19 .done .non) .non))))))) (.m 12 (.p 15 (.m 0 (.p 1 (.a 7 (.p 8 (.f 16 (.m 17 (.a 19 .done .non) .non))) (.m 16 (.a 7 (.p 8 (.m 17 (.a 19 .done .non) .non)) .non) .non))) (.a 7 (.p 8 (.f 0 (.p 1 (.f 16 (.m 17 (.a 19 .done .non) .non))))) (.m 16 (.m 0 (.p 1 (.a 7 (.p 8 (.m 17 (.a 19 .done .non) .non)) .non)) (.a 7 (.p 8 (.f 0 (.p 1 (.m 17 (.a 19 .done .non) .non)))) .non)) .non)))) .non))) .non))))) (.m 18 (.m 0 (.p 1 (.a 7 (.p 8 (.f 9 (.p 11 (.f 12 (.p 15 (.f 16 (.m 17 (.a 19 .done .non) .non))))))) (.m 9 (.p 11 (.a 7 (.p 8 (.f 12 (.p 15 (.f 16 (.m 17 (.a 19 .done .non) .non))))) (.m 12 (.p 15 (.a 7 (.p 8 (.f 16 (.m 17 (.a 19 .done .non) .non))) (.m 16 (.a 7 (.p 8 (.m 17 (.a 19 .done .non) .non)) .non) .non))) .non))) .non))) (.a 7 (.p 8 (.f 0 (.p 1 (.f 9 (.p 11 (.f 12 (.p 15 (.f 16 (.m 17 (.a 19 .done .non) .non))))))))) (.m 9 (.p 11 (.m 0 (.p 1 (.a 7 (.p 8 (.f 12 (.p 15 (.f 16 (.m 17 (.a 19 .done .non) .non))))) (.m 12 (.p 15 (.a 7 (.p 8 (.f 16 (.m 17 (.a 19 .done .non) .non))) (.m 16 (.a 7 (.p 8 (.m 17 (.a 19 .done .non) .non)) .non) .non))) .non))) (.a 7 (.p 8 (.f 0 (.p 1 (.f 12 (.p 15 (.f 16 (.m 17 (.a 19 .done .non) .non))))))) (.m 12 (.p 15 (.m 0 (.p 1 (.a 7 (.p 8 (.f 16 (.m 17 (.a 19 .done .non) .non))) (.m 16 (.a 7 (.p 8 (.m 17 (.a 19 .done .non) .non)) .non) .non))) (.a 7 (.p 8 (.f 0 (.p 1 (.f 16 (.m 17 (.a 19 .done .non) .non))))) (.m 16 (.m 0 (.p 1 (.a 7 (.p 8 (.m 17 (.a 19 .done .non) .non)) .non)) (.a 7 (.p 8 (.f 0 (.p 1 (.m 17 (.a 19 .done .non) .non)))) .non)) .non)))) .non)))) .non))) .non)))))))))))) (by kernel_rfl) (fun K hK=> ?_)
      repeat' (first
        |refine Q7
        |refine Qs ?_
        |refine Xp ?_
        |refine XK ?_ ?_
        |refine Qn ?_ ?_
        |refine Qj ?_
        |refine Qq rfl rfl rfl ?_
        |refine Zk rfl rfl rfl rfl rfl (by with_reducible first|exact Zm|exact lPCod|exact lInt|exact lPths) rfl ?_
        |refine Qk (iadd (by omega) (by omega)) rfl rfl rfl rfl ?_
        |refine Qk (isub (by omega) (by omega)) rfl rfl rfl rfl ?_
        |refine Qt rfl rfl rfl (by with_reducible exact sPths) (by omega) hpA rfl ?_
        |refine Qt rfl rfl rfl (by with_reducible exact sAdrs) (by omega) (adrs_at (by omega) (by omega)) rfl ?_
        |refine XU rfl rfl rfl (by with_reducible first|exact lAdrs|exact lAddr) rfl ?_
        |refine Qg 1 rfl rfl (by with_reducible exact zvRes) rfl rfl rfl ?_
        |refine Qb 17 rfl rfl rfl rfl rfl (by with_reducible exact szRes) rfl rfl ?_
        |refine Ops.linkX 49 22 rfl rfl (Ops.lenX _ rfl rfl rfl (by decide) (rss_len _) (by with_reducible exact sRes.und) rfl ?_)
        |(refine Zd 53 0 rfl rfl e0 (Ops.callB goNext (NextD_ok bs c0 (q+1) (by omega) (by omega) hb) rfl rfl rfl rfl rfl (fun z hz=> ?_))
          obtain ⟨u,c1⟩:=z
          dsimp only at hz ⊢)
        |refine QV goreply (replyG_ok out.length t _ _ (by omega) (by omega)) rfl rfl rfl rfl ?_
        |(refine Xv (hK _ _ ?_)
          exact Xk hM (u,c1) hz (Qu rfl ⟨rfl,rfl,rfl,trivial⟩)))
    obtain ⟨u,c1⟩:=x
    dsimp only at hx ⊢
    clear hsB htB
    generalize p.getD (t - 1).toNat 0=a
    have eH:rpH f out.length t (s+u) a=⟨0,0,out.length,1000*out.length,9,17,f,t,true,false,1000*out.length+(100*out.length+(s+u)) - 100*out.length,a,1,0,0,0,0⟩:=by
      unfold rpH
      rw [show (1000*(out.length:Int)+(100*out.length+(s+u)) - 100*out.length)=1000*out.length+(s+u) by omega]
    refine Qy ?_
    refine YJ (α:=Unit) (fun _=>True) (fun _=>[(5, .own 12),(16, .own 1)])
      (fun _=>(1, .box 47 (rsCs (rpH f out.length t (s+u) a)))::trB ps ws ts vc q bs ho out c1) (fun _ _=> ?_) (fun KN hM=> ?_)
    rotate_left
    · rw [eH] at hM
      refine Yq (by with_reducible exact mixed) [14,16,18] (.p 6 (.p 9 (.p 12 (.f 0 (.p 1 (.p 2 (.f 7 (.f 10 (.p 13 (.m 3 (.p 4 (.p 5 (.p 8 (.p 11 (.a 14 (.p 15 (.a 16 (.p 17 (.a 18 .done .non)) .non)) .non))))) (.a 14 (.f 3 (.p 4 (.p 5 (.p 8 (.p 11 (.p 15 (.a 16 (.p 17 (.a 18 .done .non)) .non))))))) .non))))))))))) (by kernel_rfl) (fun K hK=> ?_)
      repeat' (first
        |refine Q7
        |refine Qs ?_
        |refine Xp ?_
        |refine XK ?_ ?_
        |refine Qn ?_ ?_
        |refine Qj ?_
        |refine Qq rfl rfl rfl ?_
        |refine Zk rfl rfl rfl rfl rfl (by with_reducible exact Zm) rfl ?_
        |refine Ops.linkX 67 22 rfl rfl (Ops.lenX _ rfl rfl rfl (by decide) (rss_len _) (by with_reducible exact sRes.und) rfl ?_)
        |refine Ops.linkX 70 22 rfl rfl (Ops.lenX _ rfl rfl rfl (by decide) (rss_len _) (by with_reducible exact sRes.und) rfl ?_)
        |refine Qk (imul (by omega) (by omega)) rfl rfl rfl rfl ?_
        |refine Qk (iadd (by dsimp only [rpG];omega) (by dsimp only [rpG];omega)) rfl rfl rfl rfl ?_
        |refine Qk (isub (by dsimp only [rpG];omega) (by dsimp only [rpG];omega)) rfl rfl rfl rfl ?_
        |refine QJ rfl rfl rfl (by with_reducible first|exact fS10|exact fS3|exact fS6) rfl ?_
        |refine QX rfl rfl rfl rfl rfl (by with_reducible exact lInt) rfl ?_
        |refine Xz rfl rfl rfl rfl rfl (by with_reducible exact zInt) (Nat.le_of_ble_eq_true rfl) ?_
        |(refine Xv (hK _ _ ?_)
          exact Xk hM () trivial (Qu rfl ⟨rfl,rfl,trivial⟩)))
    generalize hr:rpH f out.length t (s+u) a=rr
    (refine Qx (fun K hK=> ?_))
    refine Zk rfl rfl rfl rfl rfl (by with_reducible exact Zm) rfl ?_
    refine X4 83 22 rfl rfl ?_
    (refine Qe (n:=17) rfl rfl rfl rfl rfl (by with_reducible exact lRes) rfl ?_)
    refine Ze (n:=17) rfl rfl (by with_reducible exact sRes) rfl rfl (by decide) rfl ?_
    refine Xq out.length (rss (out++ [rr])) rfl rfl rfl rfl (by with_reducible exact sRes) (rss_len out) rfl (by omega) (by omega) (rss_snoc out rr) rfl ?_
    refine Ops.name 86 22 rfl rfl (fun v hv=> ?_)
    refine Ops.st1O rfl rfl rfl rfl hv (by with_reducible exact zRess) ?_
    (refine Qj (hK _ _ ?_);clear hK K)
    refine Fin.endMC [1] (u,c1,v) [] rfl QZ rfl rfl (fun _=>by rw [←hr];rfl) ⟨⟨⟨hx.1.1,by omega⟩,hv⟩,hx.2⟩
  (refine QK (Qz (Qy (Q1 (Qy (Qx fun K hK=> ?_))))))
  refine Qt rfl rfl rfl (by with_reducible exact sAdrs) (by omega) (adrs_at (by omega) (by omega)) rfl ?_
  have egi:(p.take t.toNat).getD i 0=p.getD i 0:=by
    rw [List.getD_eq_getElem?_getD,List.getD_eq_getElem?_getD,List.getElem?_take_of_lt (by omega)]
  rw [show (i:Int).toNat=i from rfl,egi]
  refine XU rfl rfl rfl (by with_reducible exact lAddr) rfl ?_
  (refine Qv rfl rfl rfl ?_;refine Qj (hK _ _ (Qz (Qy (Qy ?_))));clear hK K;refine Qx (fun K hK=> ?_))
  refine Zk rfl rfl rfl rfl rfl (by with_reducible exact lWrs1) rfl ?_
  (refine Qf rfl rfl (by with_reducible first|exact sTks.und|exact sWrs.und|exact sIks.und|exact sAdrs.und) (List.length_map ..) rfl ?_;refine Qq rfl rfl rfl ?_;refine Qj (hK _ _ (Qz (Q1 ?_)));clear hK K)
  have e0k:tmK ws ts (prA p i,p.getD i 0) 0=0:=rfl
  have eS:smK ws ts p (i+1)=smK ws ts p i+tmK ws ts (prA p i,p.getD i 0) ws.length:=rfl
  have eP:prA p (i+1)=p.getD i 0:=rfl
  have hT:=htB (prA p i,p.getD i 0)
  have hst:∀k,tmK ws ts (prA p i,p.getD i 0) (k+1)=if ws.getD k wr0=(prA p i,p.getD i 0) then tmK ws ts (prA p i,p.getD i 0) k+ts.getD k 0 else tmK ws ts (prA p i,p.getD i 0) k:=fun _=>rfl
  clear htB hsB egi hpA
  generalize smK ws ts p i=s0 at hB eS
  generalize prA p i=la at*
  generalize p.getD i 0=a at*
  generalize tmK ws ts (la,a)=tm at*
  refine Qr (α:=Nat) (fun k=>k≤ws.length)
    (fun k=>[(0, .ct (intC f)),(1, .ct (intC t)),(2, .own 13),(3, .own 10),(4, .own 11),(5, .own 12),(6, .own 9),(7, .own 4),(10, .ct (intC (s0+tm k))),(11, .ct (adrF la)),(13, .ct (adrF a)),(22, .ct (adrsC (p.take t.toNat))),(23, .ct (intC t.toNat)),(24, .ct (intC i)),(28, .ct (wrsC ws)),(29, .ct (intC ws.length)),(30, .ct (intC k))])
    (fun _=>trB ps ws ts vc q bs ho out c0) (fun k=>ws.length - k) 0 (Nat.zero_le _) (by rw [e0k,Int.add_zero];exact Qu rfl ⟨rfl,rfl,rfl,rfl,rfl,rfl,rfl,rfl,rfl,rfl,rfl,rfl,rfl,rfl,rfl,rfl,rfl,trivial⟩) ?_
  intro k hk
  have hTk:=hT k
  have hst:=hst k
  try dsimp only at hk ⊢
  (refine Qy (Qx fun K hK=> ?_);refine Qk ilss rfl rfl rfl rfl ?_;refine Qj (hK _ _ (Qz (Qy ?_)));clear hK K)
  refine Q2 rfl (fun g=> ?_) (fun g=> ?_)
  rotate_left
  · have hk' :k=ws.length:=by omega
    subst hk'
    (refine Qm (Qz (Qx fun K hK=> ?_));refine Qq rfl rfl rfl ?_;refine Qv rfl rfl rfl ?_;refine Qj (hK _ _ (Qz ?_));clear hK K;refine Qx (fun K hK=> ?_);refine Qk (iadd (by omega) (by omega)) rfl rfl rfl rfl ?_;refine Qq rfl rfl rfl ?_;refine Qj (hK _ _ (Q6 ?_));clear hK K)
    refine Q9 (i+1) (by omega) (by omega) (by rw [eS,eP];exact Qu rfl ⟨rfl,rfl,rfl,rfl,rfl,rfl,rfl,rfl,rfl,rfl,rfl,rfl,by simp only [Int.natCast_add];rfl,trivial⟩)
  (refine QK (Qz (Qy (Q1 (Qy (Qx fun K hK=> ?_)))));refine Qq rfl rfl rfl ?_)
  refine Qt rfl rfl rfl (by with_reducible exact sWrs) (by omega) (wrs_at (by omega) (by omega)) rfl ?_
  rw [show (k:Int).toNat=k from rfl]
  generalize ws.getD k wr0=x at hst
  refine X9 (n:=2) rfl rfl rfl (by with_reducible exact Yk) rfl rfl ?_
  refine Qg 1 rfl rfl (by with_reducible exact zvWire) rfl rfl rfl ?_
  refine Qv rfl rfl rfl ?_
  refine Qb 2 rfl rfl rfl rfl rfl (by with_reducible exact szWire) rfl rfl ?_
  (refine Qj (hK _ _ (Qz (Qy ?_)));clear hK K;refine Qx (fun K hK=> ?_);refine Qe (n:=2) rfl rfl rfl rfl rfl (by with_reducible first|exact lTrav|exact Yk|exact lCs) rfl ?_;refine Qq rfl rfl rfl ?_;refine Qq rfl rfl rfl ?_)
  refine Qo rfl (by with_reducible exact bWire) rfl (.one rfl rfl rfl rfl (.one rfl rfl rfl rfl .nil)) rfl ?_
  refine eqWr x (la,a) rfl rfl rfl rfl rfl ?_
  (refine Qj (hK _ _ (Qz ?_));clear hK K)
  refine Q2 rfl (fun g2=> ?_) (fun g2=> ?_)
  · rw [if_pos g2] at hst
    have hz:0≤ts.getD (k:Int).toNat 0∧ts.getD (k:Int).toNat 0≤60:=hts _ (by
      show ts.getD k 0∈ts
      rw [List.getD_eq_getElem?_getD,List.getElem?_eq_getElem (by omega)];exact List.getElem_mem _)
    have hst:tm (k+1)=tm k+ts.getD (k:Int).toNat 0:=hst
    (refine Qx (fun K hK=> ?_);refine Qq rfl rfl rfl ?_)
    refine Zk rfl rfl rfl rfl rfl (by with_reducible exact lInts) rfl ?_
    (refine Qq rfl rfl rfl ?_;refine Qt rfl rfl rfl (by with_reducible exact sInts) (by omega) (Xr (by omega) (by omega)) rfl ?_;refine XU rfl rfl rfl (by with_reducible first|exact lInt|exact lClaims) rfl ?_;refine Qk (iadd (by omega) (by omega)) rfl rfl rfl rfl ?_;refine Qv rfl rfl rfl ?_;refine Qj (hK _ _ (Qz ?_));clear hK K;refine Qx (fun K hK=> ?_);refine Qk (iadd (by omega) (by omega)) rfl rfl rfl rfl ?_;refine Qq rfl rfl rfl ?_;refine Qj (hK _ _ (Q6 ?_));clear hK K)
    refine Xj 1 ?_
    refine Q9 (k+1) (by omega) (by omega) (by rw [hst,←Int.add_assoc];exact Qu rfl ⟨rfl,rfl,rfl,rfl,rfl,rfl,rfl,rfl,rfl,rfl,rfl,rfl,rfl,rfl,rfl,rfl,by simp only [Int.natCast_add];rfl,trivial⟩)
  · rw [if_neg g2] at hst
    (refine QK (Qz (Qx fun K hK=> ?_));refine Qk (iadd (by omega) (by omega)) rfl rfl rfl rfl ?_;refine Qq rfl rfl rfl ?_;refine Qj (hK _ _ (Q6 ?_));clear hK K)
    refine Xj 1 ?_
    refine Q9 (k+1) (by omega) (by omega) (by rw [hst];exact Qu rfl ⟨rfl,rfl,rfl,rfl,rfl,rfl,rfl,rfl,rfl,rfl,rfl,rfl,rfl,rfl,rfl,rfl,by simp only [Int.natCast_add];rfl,trivial⟩)
abbrev ptT : List (List Ad) := [[1, 2, 3, 4], [1, 5, 3, 6]]
def wiA (ws : List Wr) (p : List Ad) : Nat → List Wr
  | 0 => ws
  | i + 1 => if (prA p i, p.getD i 0) ∈ wiA ws p i then wiA ws p i else wiA ws p i ++ [(prA p i, p.getD i 0)]
def wiB : Nat → List Wr
  | 0 => []
  | f + 1 => wiA (wiB f) (ptT.getD f []) 4
def drT (bs : List Int) : Nat → List Int × Nat
  | 0 => ([], 0)
  | k + 1 => ((drT bs k).1 ++ [(nxt bs (drT bs k).2 60).1], (nxt bs (drT bs k).2 60).2)
theorem drT_snoc{bs ts:List Int}{c c1 k:Nat}{u:Int}(h:(ts,c)=drT bs k)(h2:(u,c1)=nxt bs c 60):(ts++ [u],c1)=drT bs (k+1):=by
  show _=((drT bs k).1++ [(nxt bs (drT bs k).2 60).1],(nxt bs (drT bs k).2 60).2)
  rw [←h]
  dsimp only
  rw [←h2]
theorem wiA_len(ws:List Wr)(p:List Ad):∀i,(wiA ws p i).length≤ws.length+i
  |0=>Nat.le_refl _
  |i+1=>by
    have h:=wiA_len ws p i
    unfold wiA
    split
    · omega
    · rw [List.length_append];simp only [List.length_cons,List.length_nil];omega
theorem wiB_len:∀f,(wiB f).length≤4*f
  |0=>Nat.le_refl _
  |f+1=>by
    have h:=wiB_len f
    have h2:=wiA_len (wiB f) (ptT.getD f []) 4
    unfold wiB
    omega
theorem zvWrs:(Tryz.prog.info? 25).map (·.zero)=some (some (.slice none 0 0)):=by kernel_rfl
theorem zvInts:(Tryz.prog.info? 26).map (·.zero)=some (some (.slice none 0 0)):=by kernel_rfl
theorem zvRess:(Tryz.prog.info? 24).map (·.zero)=some (some (.slice none 0 0)):=by kernel_rfl
theorem zvPths:(Tryz.prog.info? 94).map (·.zero)=some (some (.slice none 0 0)):=by kernel_rfl
theorem zvPCod:(Tryz.prog.info? 29).map (·.zero)=some (some (.pointer none)):=by kernel_rfl
theorem szPCod:(Tryz.prog.info? 29).map (·.size)=some 1:=by kernel_rfl
theorem szWrs:(Tryz.prog.info? 25).map (·.size)=some 1:=by kernel_rfl
theorem szIntsT:(Tryz.prog.info? 26).map (·.size)=some 1:=by kernel_rfl
abbrev nilV : Value := .slice none 0 0
abbrev trE (q : Int) (bs : List Int) (vc : Value) (ws : List Wr) (ts : List Int) (h1 h2 : Value) (c : Nat) : BL :=
  [(21, .rowx h1 3 1 (ints ts)), (20, .rowx h2 37 2 (wrs ws)), (13, .box 94 [pthsC ptT]), (12, .box 24 [.ex nilV]), (11, .box 26 [.ex h1]), (10, .box 25 [.ex h2]), (9, .box 29 [.ex vc]), (0, .box 98 (codes bs c)), (4, .box 3 [intC q])]
set_option maxHeartbeats 16000000 in
set_option maxRecDepth 20000 in
theorem truth_begin(l:List Int)(hb:Bytes (l.take 400))(q more:Int)(S:BSet)(w:World)(ρ0:Nat→Value){Q:Exit→Act→World→Prop}
    (h:∀(ts:List Int) (c1:Nat) (vc h1 h2:Value),ts.length=(wiB 2).length→(∀x∈ts,0≤x∧x≤60)→(ts,c1)=drT (l.take 400) (wiB 2).length→vc.oneCell' =true→
      St ((lentM Tryz.prog 127 S w [] [] ρ0).pin 0 vc) [(2, .ct (intC more)),(4, .own 4),(9, .own 9),(10, .own 10),(11, .own 11),(12, .own 12),(13, .own 13)] (trE q (l.take 400) vc (wiB 2) ts h1 h2 c1)
        (seqR (seqR (seqR (seqR (seqR (seqR (seqR (bodyOf Tryz.f10)))))))) Q):
    St (lentM Tryz.prog 127 S w [] [] ρ0) (argS 0 [.ct (bytesC l), .ct (intC q), .ct (intC more)]) [] (bodyOf Tryz.f10) Q:=by
  refine Qy ?_
  refine Qx (fun K hK=> ?_)
  refine Ops.box1 4 rfl rfl rfl rfl rfl rfl rfl ?_
  refine Qv rfl rfl rfl ?_
  refine Qv rfl rfl rfl ?_
  refine Qv rfl rfl rfl ?_
  refine Qj (hK _ _ ?_)
  clear hK K
  refine Qz ?_
  refine Qy ?_
  refine St.region ?_
  refine Qq rfl rfl rfl ?_
  refine Ops.callN 0 goRoll (Roll_ok l) rfl rfl rfl rfl rfl rfl ?_
  refine Qg 9 rfl rfl (by with_reducible exact zvPCod) rfl rfl rfl ?_
  refine Ops.pin 0 rfl (fun vc hvc=> ?_)
  refine Ops.nameB 29 0 rfl rfl ?_
  refine Ops.st1O rfl rfl rfl rfl hvc (by with_reducible exact szPCod) ?_
  refine Qj ?_
  refine Qz ?_
  (refine Qy (Qx fun K hK=> ?_))
  refine Qg 10 rfl rfl (by with_reducible exact zvWrs) rfl rfl rfl ?_
  (refine Qj (hK _ _ (Qz (Qy ?_)));clear hK K;refine Qx (fun K hK=> ?_))
  refine Qg 11 rfl rfl (by with_reducible exact zvInts) rfl rfl rfl ?_
  (refine Qj (hK _ _ (Qz (Qy ?_)));clear hK K;refine Qx (fun K hK=> ?_))
  refine Qg 12 rfl rfl (by with_reducible exact zvRess) rfl rfl rfl ?_
  (refine Qj (hK _ _ (Qz (Qy ?_)));clear hK K;refine Qx (fun K hK=> ?_))
  refine Ops.lit (m:=4) (n:=1) (cs:=adrs [1,2,3,4]) rfl rfl (by with_reducible exact sAdrs) (.one rfl rfl rfl rfl (.one rfl rfl rfl rfl (.one rfl rfl rfl rfl (.one rfl rfl rfl rfl .nil)))) (by decide) rfl ?_
  refine Ops.lit (m:=4) (n:=1) (cs:=adrs [1,5,3,6]) rfl rfl (by with_reducible exact sAdrs) (.one rfl rfl rfl rfl (.one rfl rfl rfl rfl (.one rfl rfl rfl rfl (.one rfl rfl rfl rfl .nil)))) (by decide) rfl ?_
  refine Ops.lit (m:=2) (n:=1) (cs:=pths ptT) rfl rfl (by with_reducible exact sPths) (.one rfl rfl rfl rfl (.one rfl rfl rfl rfl .nil)) (by decide) rfl ?_
  refine Qg 13 rfl rfl (by with_reducible exact zvPths) rfl rfl rfl ?_
  refine Ops.st1O rfl rfl rfl rfl rfl (by with_reducible exact zPths) ?_
  refine Qj (hK _ _ ?_)
  clear hK K
  refine Qz ?_
  refine St.nilX 20 37 2 rfl rfl ?_
  refine St.nilX 21 3 1 rfl rfl ?_
  refine Qy ?_
  refine YJ (α:=List Int × Nat × Value × Value) (fun x=>x.1.length=(wiB 2).length∧(∀y∈x.1,0≤y∧y≤60)∧(x.1,x.2.1)=drT (l.take 400) (wiB 2).length)
    (fun _=>[(2, .ct (intC more)),(4, .own 4),(9, .own 9),(10, .own 10),(11, .own 11),(12, .own 12),(13, .own 13)])
    (fun x=>trE q (l.take 400) vc (wiB 2) x.1 x.2.2.1 x.2.2.2 x.2.1) (fun x hx=>h x.1 x.2.1 vc x.2.2.1 x.2.2.2 hx.1 hx.2.1 hx.2.2 hvc) (fun KN hM=> ?_)
  clear h
  generalize l.take 400=bs at hb hM ⊢
  refine Qy ?_
  refine Qx (fun K hK=> ?_)
  refine Zk rfl rfl rfl rfl rfl (by with_reducible exact lPths) rfl ?_
  refine Qf (m:=2) rfl rfl (by with_reducible exact sPths.und) rfl rfl ?_
  (refine Qq rfl rfl rfl ?_;refine Qj (hK _ _ (Qz (Q1 ?_)));clear hK K)
  refine Qr (α:=Nat × List Int × Nat × Value × Value) (fun x=>x.1≤2∧x.2.1.length=(wiB x.1).length∧(∀y∈x.2.1,0≤y∧y≤60)∧(x.2.1,x.2.2.1)=drT bs (wiB x.1).length)
    (fun x=>[(2, .ct (intC more)),(4, .own 4),(9, .own 9),(10, .own 10),(11, .own 11),(12, .own 12),(13, .own 13),(34, .ct (intC 2)),(35, .ct (intC x.1))])
    (fun x=>trE q bs vc (wiB x.1) x.2.1 x.2.2.2.1 x.2.2.2.2 x.2.2.1) (fun x=>2 - x.1) (0,[],0,nilV,nilV) ⟨Nat.zero_le _,rfl,(fun y hy=>by cases hy),rfl⟩ (by exact Qu rfl ⟨rfl,rfl,rfl,rfl,rfl,rfl,rfl,rfl,rfl,trivial⟩) ?_
  rintro ⟨f,ts,c,h1,h2⟩ ⟨hf,hl,hts,hdr⟩
  have hw:=wiB_len f
  try dsimp only at hf hl hts hdr ⊢
  (refine Qy (Qx fun K hK=> ?_);refine Qk ilss rfl rfl rfl rfl ?_;refine Qj (hK _ _ (Qz (Qy ?_)));clear hK K)
  refine Q2 rfl (fun g=> ?_) (fun g=> ?_)
  rotate_left
  · have hf' :f=2:=by omega
    subst hf'
    (refine Qm (Zn (Zn (Fin.blockE ?_))))
    exact Xk hM (ts,c,h1,h2) ⟨hl,hts,hdr⟩ (Qu rfl ⟨rfl,rfl,rfl,rfl,rfl,rfl,rfl,trivial⟩)
  have hp4:(ptT.getD f []).length=4:=by
    have:f=0∨f=1:=by omega
    rcases this with rfl|rfl <;>rfl
  have hwf:wiB (f+1)=wiA (wiB f) (ptT.getD f []) 4:=rfl
  have hpf:=pths_at (ps:=ptT) (j:=(f:Int)) (by omega) (by show (f:Int)<2;omega)
  rw [show (f:Int).toNat=f from rfl] at hpf
  generalize ptT.getD f []=p at hp4 hwf hpf
  generalize wiB f=wf at hw hwf hl hdr ⊢
  (refine QK (Qz (Qy (Q1 (Qy (Qx fun K hK=> ?_)))));refine Qq rfl rfl rfl ?_;refine Qv rfl rfl rfl ?_;refine Qj (hK _ _ (Qz (Qy ?_)));clear hK K;refine Qx (fun K hK=> ?_);refine Qv rfl rfl rfl ?_;refine Qj (hK _ _ (Qz (Qy ?_)));clear hK K;refine Qx (fun K hK=> ?_))
  refine Zk rfl rfl rfl rfl rfl (by with_reducible exact lPths) rfl ?_
  (refine Qq rfl rfl rfl ?_)
  refine Qt rfl rfl rfl (by with_reducible exact sPths) (by omega) hpf rfl ?_
  refine XU rfl rfl rfl (by with_reducible exact lAdrs) rfl ?_
  (refine Qf rfl rfl (by with_reducible first|exact sTks.und|exact sWrs.und|exact sIks.und|exact sAdrs.und) (List.length_map ..) rfl ?_;refine Qq rfl rfl rfl ?_;refine Qj (hK _ _ (Qz (Q1 ?_)));clear hK K)
  clear hpf
  refine Qr (α:=Nat × List Int × Nat × Value × Value) (fun x=>x.1≤p.length∧x.2.1.length=(wiA wf p x.1).length∧(∀y∈x.2.1,0≤y∧y≤60)∧(x.2.1,x.2.2.1)=drT bs (wiA wf p x.1).length)
    (fun x=>[(2, .ct (intC more)),(4, .own 4),(9, .own 9),(10, .own 10),(11, .own 11),(12, .own 12),(13, .own 13),(34, .ct (intC 2)),(35, .ct (intC f)),(15, .ct (adrF (prA p x.1))),(41, .ct (adrsC p)),(42, .ct (intC p.length)),(43, .ct (intC x.1))])
    (fun x=>trE q bs vc (wiA wf p x.1) x.2.1 x.2.2.2.1 x.2.2.2.2 x.2.2.1) (fun x=>p.length - x.1) (0,ts,c,h1,h2) ⟨Nat.zero_le _,hl,hts,hdr⟩ (by exact Qu rfl ⟨rfl,rfl,rfl,rfl,rfl,rfl,rfl,rfl,rfl,rfl,rfl,rfl,rfl,trivial⟩) ?_
  clear hl hts hdr
  clear ts c h1 h2
  rintro ⟨i,ts,c,h1,h2⟩ ⟨hi,hl,hts,hdr⟩
  have hwl:=wiA_len wf p i
  have hstp:wiA wf p (i+1)=if (prA p i,p.getD i 0)∈wiA wf p i then wiA wf p i else wiA wf p i++ [(prA p i,p.getD i 0)]:=rfl
  have eP:prA p (i+1)=p.getD i 0:=rfl
  try dsimp only at hi hl hts hdr ⊢
  generalize hWe:wiA wf p i=W at hwl hstp hl hdr ⊢
  generalize prA p i=la at hstp ⊢
  (refine Qy (Qx fun K hK=> ?_);refine Qk ilss rfl rfl rfl rfl ?_;refine Qj (hK _ _ (Qz (Qy ?_)));clear hK K)
  refine Q2 rfl (fun g2=> ?_) (fun g2=> ?_)
  rotate_left
  · have hi' :i=4:=by omega
    subst hi'
    (refine Qm (Qz (Qx fun K hK=> ?_));refine Qk (iadd (by omega) (by omega)) rfl rfl rfl rfl ?_;refine Qq rfl rfl rfl ?_;refine Qj (hK _ _ (Q6 ?_));clear hK K)
    refine Q9 (f+1,ts,c,h1,h2) (by show 2 - (f+1)<2 - f;omega) ⟨by show f+1≤2;omega,by show ts.length=(wiB (f+1)).length;rw [hwf,hWe];exact hl,hts,by show (ts,c)=drT bs (wiB (f+1)).length;rw [hwf,hWe];exact hdr⟩ (by dsimp only;rw [hwf,hWe];exact Qu rfl ⟨rfl,rfl,rfl,rfl,rfl,rfl,rfl,rfl,by simp only [Int.natCast_add];rfl,trivial⟩)
  (refine QK (Qz (Qy (Q1 (Qy (Qx fun K hK=> ?_))))))
  refine Qt rfl rfl rfl (by with_reducible exact sAdrs) (by omega) (adrs_at (by omega) (by omega)) rfl ?_
  rw [show (i:Int).toNat=i from rfl]
  generalize p.getD i 0=a at hstp eP ⊢
  refine XU rfl rfl rfl (by with_reducible exact lAddr) rfl ?_
  (refine Qv rfl rfl rfl ?_;refine Qj (hK _ _ (Qz (Qy ?_)));clear hK K;refine Qx (fun K hK=> ?_);refine Qv rfl rfl rfl ?_;refine Qj (hK _ _ (Qz (Qy (Qy ?_))));clear hK K;refine Qx (fun K hK=> ?_))
  refine Zk rfl rfl rfl rfl rfl (by with_reducible exact lWrs1) rfl ?_
  refine Ops.linkX 47 20 rfl rfl ?_
  refine Ops.lenX _ rfl rfl rfl (by decide) (YW _) (by with_reducible exact sWrs.und) rfl ?_
  (refine Qq rfl rfl rfl ?_;refine Qj (hK _ _ (Qz (Q1 ?_)));clear hK K)
  refine Qr (α:=Nat) (fun k=>k≤W.length)
    (fun k=>[(2, .ct (intC more)),(4, .own 4),(9, .own 9),(10, .own 10),(11, .own 11),(12, .own 12),(13, .own 13),(34, .ct (intC 2)),(35, .ct (intC f)),(15, .ct (adrF la)),(17, .ct (adrF a)),(18, .ct (boolC (decide ((la,a)∈W.take k)))),(41, .ct (adrsC p)),(42, .ct (intC p.length)),(43, .ct (intC i)),(47, .own 20),(48, .ct (intC W.length)),(49, .ct (intC k))])
    (fun _=>trE q bs vc W ts h1 h2 c) (fun k=>W.length - k) 0 (Nat.zero_le _) (by exact Qu rfl ⟨rfl,rfl,rfl,rfl,rfl,rfl,rfl,rfl,rfl,rfl,rfl,rfl,rfl,rfl,rfl,rfl,rfl,rfl,trivial⟩) ?_
  intro k hk
  try dsimp only at hk ⊢
  (refine Qy (Qx fun K hK=> ?_);refine Qk ilss rfl rfl rfl rfl ?_;refine Qj (hK _ _ (Qz (Qy ?_)));clear hK K)
  refine Q2 rfl (fun g3=> ?_) (fun g3=> ?_)
  rotate_left
  · have hk' :k=W.length:=by omega
    subst hk'
    rw [List.take_length]
    (refine Qm (Qz (Qy (Qy (Qx fun K hK=> ?_))));refine Qq rfl rfl rfl ?_;refine Xx rfl rfl rfl ?_;refine Qj (hK _ _ (Qz ?_));clear hK K)
    refine YJ (α:=List Int × Nat × Value × Value) (fun x=>x.1.length=(wiA wf p (i+1)).length∧(∀y∈x.1,0≤y∧y≤60)∧(x.1,x.2.1)=drT bs (wiA wf p (i+1)).length)
      (fun _=>[(2, .ct (intC more)),(4, .own 4),(9, .own 9),(10, .own 10),(11, .own 11),(12, .own 12),(13, .own 13),(34, .ct (intC 2)),(35, .ct (intC f)),(17, .ct (adrF a)),(41, .ct (adrsC p)),(42, .ct (intC p.length)),(43, .ct (intC i))])
      (fun x=>trE q bs vc (wiA wf p (i+1)) x.1 x.2.2.1 x.2.2.2 x.2.1) (fun x hx=> ?_) (fun KN hM=> ?_)
    · obtain ⟨t1,c1,u1,u2⟩:=x
      dsimp only at hx ⊢
      (refine Qx (fun K hK=> ?_);refine Qq rfl rfl rfl ?_;refine Qv rfl rfl rfl ?_;refine Qj (hK _ _ (Qz ?_));clear hK K;refine Qx (fun K hK=> ?_);refine Qk (iadd (by omega) (by omega)) rfl rfl rfl rfl ?_;refine Qq rfl rfl rfl ?_;refine Qj (hK _ _ (Q6 ?_));clear hK K)
      refine Q9 (i+1,t1,c1,u1,u2) (by show p.length - (i+1)<p.length - i;omega) ⟨by show i+1≤p.length;omega,hx.1,hx.2⟩ (by dsimp only;rw [eP];exact Qu rfl ⟨rfl,rfl,rfl,rfl,rfl,rfl,rfl,rfl,rfl,rfl,rfl,rfl,by simp only [Int.natCast_add];rfl,trivial⟩)
    by_cases hin:(la,a)∈W
    · rw [if_pos hin] at hstp
      rw [hstp] at hM
      rw [decide_eq_true hin]
      (refine Xw rfl (QK ?_))
      exact Xk hM (ts,c,h1,h2) ⟨hl,hts,hdr⟩ (Qu rfl ⟨rfl,rfl,rfl,rfl,rfl,rfl,rfl,rfl,rfl,rfl,rfl,rfl,rfl,trivial⟩)
    rw [if_neg hin] at hstp
    rw [hstp] at hM
    rw [decide_eq_false hin]
    refine XZ rfl ?_
    refine Yq (by with_reducible exact mixed) [5,8,10,11,12] (.p 1 (.p 2 (.p 3 (.f 0 (.m 4 (.a 5 (.f 7 (.m 6 (.a 8 (.m 9 (.a 10 (.a 11 (.a 12 .done .non) .non) .non) .non) .non) (.a 8 (.f 6 (.m 9 (.a 10 (.a 11 (.a 12 .done .non) .non) .non) .non)) .non))) (.m 6 (.a 5 (.f 7 (.a 8 (.m 9 (.a 10 (.a 11 (.a 12 .done .non) .non) .non) .non) .non)) (.m 7 (.a 5 (.a 8 (.m 9 (.a 10 (.a 11 (.a 12 .done .non) .non) .non) .non) .non) .non) .non)) (.m 7 (.a 5 (.m 6 (.a 8 (.m 9 (.a 10 (.a 11 (.a 12 .done .non) .non) .non) .non) .non) (.a 8 (.f 6 (.m 9 (.a 10 (.a 11 (.a 12 .done .non) .non) .non) .non)) .non)) (.m 6 (.a 5 (.a 8 (.m 9 (.a 10 (.a 11 (.a 12 .done .non) .non) .non) .non) .non) .non) .non)) .non))) (.m 6 (.m 4 (.a 5 (.f 7 (.a 8 (.m 9 (.a 10 (.a 11 (.a 12 .done .non) .non) .non) .non) .non)) (.m 7 (.a 5 (.a 8 (.m 9 (.a 10 (.a 11 (.a 12 .done .non) .non) .non) .non) .non) .non) .non)) (.m 7 (.m 4 (.a 5 (.a 8 (.m 9 (.a 10 (.a 11 (.a 12 .done .non) .non) .non) .non) .non) .non) .non) .non)) (.m 7 (.m 4 (.a 5 (.m 6 (.a 8 (.m 9 (.a 10 (.a 11 (.a 12 .done .non) .non) .non) .non) .non) (.a 8 (.f 6 (.m 9 (.a 10 (.a 11 (.a 12 .done .non) .non) .non) .non)) .non)) (.m 6 (.a 5 (.a 8 (.m 9 (.a 10 (.a 11 (.a 12 .done .non) .non) .non) .non) .non) .non) .non)) (.m 6 (.m 4 (.a 5 (.a 8 (.m 9 (.a 10 (.a 11 (.a 12 .done .non) .non) .non) .non) .non) .non) .non) .non)) .non))))))) (by kernel_rfl) (fun K hK=> ?_)
    repeat' (first
      |refine Q7
      |refine Qs ?_
      |refine Xp ?_
      |refine XK ?_ ?_
      |refine Qn ?_ ?_
      |refine Qj ?_
      |refine Qq rfl rfl rfl ?_
      |refine Qo rfl (by with_reducible exact bWire) rfl (.one rfl rfl rfl rfl (.one rfl rfl rfl rfl .nil)) rfl ?_
      |refine Zk rfl rfl rfl rfl rfl (by with_reducible first|exact lWrs1|exact lPCod|exact lInts) rfl ?_
      |refine Ze (n:=2) rfl rfl (by with_reducible exact sWrs) rfl rfl (by decide) rfl ?_
      |refine X4 64 20 rfl rfl (Xq W.length (wrs (W++ [(la,a)])) rfl rfl rfl rfl (by with_reducible exact sWrs) (YW W) rfl (by omega) (by omega) (wrs_snoc W (la,a)) rfl (Ops.name 69 20 rfl rfl (fun v2 hv2=> ?_)))
      |(refine Zd 71 0 rfl rfl rfl (Ops.callB goNext (NextD_ok bs c 60 (by decide) (by decide) hb) rfl rfl rfl rfl rfl (fun z hz=> ?_))
        obtain ⟨u,c1⟩:=z
        dsimp only at hz ⊢)
      |refine Xh rfl rfl (by with_reducible exact sInts) rfl rfl rfl ?_
      |refine X4 70 21 rfl rfl (Xq ts.length (ints (ts++ [u])) rfl rfl rfl rfl (by with_reducible exact sInts) (by rw [ints_length,Nat.mul_one]) rfl (by omega) (by omega) (ZU ts [u]) rfl (Ops.name 74 21 rfl rfl (fun v1 hv1=> ?_)))
      |refine Ops.st1O rfl rfl rfl rfl hv2 (by with_reducible exact szWrs) ?_
      |refine Ops.st1O rfl rfl rfl rfl hv1 (by with_reducible exact szIntsT) ?_
      |(refine Xv (hK _ _ ?_)
        exact Xk hM (ts++ [u],c1,v1,v2) ⟨by show (ts++ [u]).length=_;rw [List.length_append,List.length_append,hl];rfl,fun y hy=>by
          rcases List.mem_append.1 hy with hy|hy
          · exact hts y hy
          · rw [List.mem_singleton.1 hy];omega,by rw [List.length_append];exact drT_snoc hdr hz.2⟩ (Qu rfl ⟨rfl,rfl,rfl,rfl,rfl,rfl,rfl,rfl,rfl,rfl,rfl,rfl,rfl,trivial⟩)))
  have hms:decide ((la,a)∈W.take (k+1))=(decide ((la,a)∈W.take k)||decide (W.getD k wr0=(la,a))):=by
    have hk2:k<W.length:=by omega
    have e:W.take (k+1)=W.take k++ [W.getD k wr0]:=by
      rw [List.take_add_one,List.getElem?_eq_getElem hk2,List.getD_eq_getElem?_getD,List.getElem?_eq_getElem hk2];rfl
    rw [e,←Bool.decide_or]
    exact decide_eq_decide.2 (by rw [List.mem_append,List.mem_singleton,eq_comm (a:=W.getD k wr0)])
  (refine QK (Qz (Qy (Q1 (Qy (Qx fun K hK=> ?_))))))
  refine Ops.idxX _ rfl rfl rfl (YW _) rfl (by with_reducible exact sWrs) (by omega) (by omega) rfl ?_
  rw [show (k:Int).toNat=k from rfl]
  refine ldE wrCs wr0 wr_len rfl rfl rfl rfl rfl (by omega) (by with_reducible exact Yk) rfl ?_
  generalize W.getD k wr0=x at hms ⊢
  refine Qg 1 rfl rfl (by with_reducible exact zvWire) rfl rfl rfl ?_
  refine Qb 2 rfl rfl rfl rfl rfl (by with_reducible exact szWire) rfl rfl ?_
  generalize decide ((la,a)∈W.take k)=b at hms ⊢
  (refine Qj (hK _ _ (Qz ?_));clear hK K;refine Qx (fun K hK=> ?_);refine Qq rfl rfl rfl ?_;refine Qq rfl rfl rfl ?_)
  refine Xc 54 rfl (fun g4=> ?_) (fun g4=> ?_)
  · rw [g4,Bool.true_or] at hms
    (refine Qw rfl rfl rfl ?_;refine Qw rfl rfl rfl ?_;refine Qw rfl rfl rfl ?_;refine Qw rfl rfl rfl ?_;refine Qw rfl rfl rfl ?_;refine Q5 rfl rfl rfl rfl ?_;refine Qv rfl rfl rfl ?_;refine Qj (hK _ _ (Qz ?_));clear hK K;refine Qx (fun K hK=> ?_);refine Qk (iadd (by omega) (by omega)) rfl rfl rfl rfl ?_;refine Qq rfl rfl rfl ?_;refine Qj (hK _ _ (Q6 ?_));clear hK K)
    refine Xj 1 ?_
    refine Q9 (k+1) (by omega) (by omega) (by rw [hms];exact Qu rfl ⟨rfl,rfl,rfl,rfl,rfl,rfl,rfl,rfl,rfl,rfl,rfl,rfl,rfl,rfl,rfl,rfl,rfl,by simp only [Int.natCast_add];rfl,trivial⟩)
  · rw [g4,Bool.false_or] at hms
    (refine Qe (n:=2) rfl rfl rfl rfl rfl (by with_reducible first|exact lTrav|exact Yk|exact lCs) rfl ?_;refine Qq rfl rfl rfl ?_;refine Qq rfl rfl rfl ?_)
    refine Qo rfl (by with_reducible exact bWire) rfl (.one rfl rfl rfl rfl (.one rfl rfl rfl rfl .nil)) rfl ?_
    refine eqWr x (la,a) rfl rfl rfl rfl rfl ?_
    (refine Q8 rfl rfl rfl rfl ?_;refine Qv rfl rfl rfl ?_;refine Qj (hK _ _ (Qz ?_));clear hK K;refine Qx (fun K hK=> ?_);refine Qk (iadd (by omega) (by omega)) rfl rfl rfl rfl ?_;refine Qq rfl rfl rfl ?_;refine Qj (hK _ _ (Q6 ?_));clear hK K)
    refine Xj 1 ?_
    refine Q9 (k+1) (by omega) (by omega) (by rw [hms];exact Qu rfl ⟨rfl,rfl,rfl,rfl,rfl,rfl,rfl,rfl,rfl,rfl,rfl,rfl,rfl,rfl,rfl,rfl,rfl,by simp only [Int.natCast_add];rfl,trivial⟩)
end Go.Proofs.YtojkdfilabmafaaGreat
