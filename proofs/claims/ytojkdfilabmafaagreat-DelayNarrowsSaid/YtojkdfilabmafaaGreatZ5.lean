/- The proof that DelayNarrows holds for every input, without conditions: part 5 of 7. -/
import Derived.Test.YtojkdfilabmafaaGreatZ4
namespace Go.Proofs.YtojkdfilabmafaaGreat
open Go.Own Go.Limbs Go.Det
section
variable {n : Nat} {rs : List Rw} {c : List Int}
def rsum (n : Nat) (cs : List Int) (X : Nat → Int) : Int := sm (fun j => cs.getD j 0 * X j) n
theorem rws_mem{i:Nat}(h:i<rs.length):rs.getD i rw0∈rs:=by
  rw [List.getD_eq_getElem?_getD,List.getElem?_eq_getElem h];exact List.getElem_mem h
theorem rws_at{r:Rw}(h:r∈rs):∃a,a<rs.length∧rs.getD a rw0=r:=by
  obtain ⟨a,ha,e⟩:=List.getElem_of_mem h;exact ⟨a,ha,by rw [List.getD_eq_getElem?_getD,List.getElem?_eq_getElem ha];exact e⟩
theorem feas_of{X:Nat→Int}(h0:∀v,v<n→0≤X v)(h:∀r∈rs,rsum n r.cs X≤r.b):Feas n rs 1 X:=
  ⟨by decide,h0,fun i hi=>by rw [Int.one_mul];exact h _ (rws_mem hi)⟩
theorem sm_ind(f:Nat→Int){a m:Nat}(h:a<m):sm (fun i=>f i*(if i=a then 1 else 0)) m=f a:=by
  rw [Yj h (fun k _ hk=>by rw [if_neg hk,Int.mul_zero]),if_pos J,Int.mul_one]
theorem sm_ind2(f:Nat→Int){a b m:Nat}(h:a<m)(h2:b<m):sm (fun i=>f i*((if i=a then 1 else 0)+(if i=b then 1 else 0))) m=f a+f b:=by
  rw [Xa (g:=fun i=>f i*(if i=a then 1 else 0)+f i*(if i=b then 1 else 0)) (fun k _=>Int.mul_add ..),sm_add,sm_ind f h,sm_ind f h2]
theorem dual_two{r1 r2:Rw}(h1:r1∈rs)(h2:r2∈rs)(hc:∀j,j<n→c.getD j 0≤r1.cs.getD j 0+r2.cs.getD j 0):∃Y,Dual n rs c 1 Y∧sm (fun i=>cb rs i*Y i) rs.length=r1.b+r2.b:=by
  obtain ⟨a,ha,ea⟩:=rws_at h1;obtain ⟨b,hb,eb⟩:=rws_at h2;refine ⟨fun i=>(if i=a then 1 else 0)+(if i=b then 1 else 0),⟨by decide,fun i _=>by split <;>split <;>decide,fun j hj=> ?_⟩,?_⟩
  · rw [sm_ind2 (fun i=>ca rs i j) ha hb,Int.one_mul];show _≤(rs.getD a rw0).cs.getD j 0+(rs.getD b rw0).cs.getD j 0;rw [ea,eb];exact hc j hj
  · rw [sm_ind2 (fun i=>cb rs i) ha hb];show (rs.getD a rw0).b+(rs.getD b rw0).b=_;rw [ea,eb]
theorem dual_one{r1:Rw}(h1:r1∈rs)(hc:∀j,j<n→c.getD j 0≤r1.cs.getD j 0):∃Y,Dual n rs c 1 Y∧sm (fun i=>cb rs i*Y i) rs.length=r1.b:=by
  obtain ⟨a,ha,ea⟩:=rws_at h1;refine ⟨fun i=>if i=a then 1 else 0,⟨by decide,fun i _=>by split <;>decide,fun j hj=> ?_⟩,?_⟩
  · rw [sm_ind (fun i=>ca rs i j) ha,Int.one_mul];show _≤(rs.getD a rw0).cs.getD j 0;rw [ea];exact hc j hj
  · rw [sm_ind (fun i=>cb rs i) ha];show (rs.getD a rw0).b=_;rw [ea]
theorem dual_zero(hc:∀j,j<n→c.getD j 0≤0):∃Y,Dual n rs c 1 Y∧sm (fun i=>cb rs i*Y i) rs.length=0:=
  ⟨fun _=>0,⟨by decide,fun _ _=>Int.le_refl _,fun j hj=>by rw [ZV fun k _=>Int.mul_zero _,Int.one_mul];exact hc j hj⟩,ZV fun k _=>Int.mul_zero _⟩
end
structure Btw (A B : Int) (f : Fr) : Prop where
  den : 0 < f.den
  lo : A * f.den ≤ sg f.neg f.num
  hi : sg f.neg f.num ≤ B * f.den
theorem mkRat_rel(val:Int){d:Nat}(hd:0<d):val*(mkRat val d).den=(mkRat val d).num*d:=
  (Rat.mkRat_eq_iff (n₁:=val) (d₁:=d) (n₂:=(mkRat val d).num) (d₂:=(mkRat val d).den) (by omega) (mkRat val d).den_nz).1 (Rat.mkRat_self _).symm
theorem btw_of{A B val D:Int}(hD:0<D)(h1:A*D≤val)(h2:val≤B*D):Btw A B (ofQ (shq val D)):=by
  obtain ⟨d,rfl⟩:∃d:Nat,D=d:=⟨D.toNat,by omega⟩
  have e:shq val (d:Int)=mkRat val d:=by unfold shq;rw [Int.natAbs_natCast]
  rw [e];have h:=mkRat_rel val (d:=d) (by omega);have hp:=(mkRat val d).den_pos;have hs:=ofQ_sg (mkRat val d);have hd:(ofQ (mkRat val d)).den=(mkRat val d).den:=rfl;refine ⟨hp,?_,?_⟩
  · rw [hs,hd];generalize (mkRat val d).den=q at*;generalize (mkRat val d).num=p at*
    refine Int.le_of_mul_le_mul_right ?_ hD
    rw [←h];have:=Int.mul_le_mul_of_nonneg_right h1 (show 0≤(q:Int) by omega);rw [show A*(q:Int)*d=A*d*q by grind];exact this
  · rw [hs,hd];generalize (mkRat val d).den=q at*;generalize (mkRat val d).num=p at*
    refine Int.le_of_mul_le_mul_right ?_ hD
    rw [←h];have:=Int.mul_le_mul_of_nonneg_right h2 (show 0≤(q:Int) by omega);rw [show B*(q:Int)*d=B*d*q by grind];exact this
theorem flV_btw{A B:Int}{f:Fr}(h:Btw A B f)(hA: -1152921504606846976≤A)(hB:B≤1152921504606846976):A≤flV f∧flV f≤B:=by
  have hz:=floor_sg f.neg f.num f.den h.den;have h1:A≤sg f.neg f.num/(f.den:Int):=Int.le_ediv_of_mul_le (by have:=h.den;omega) h.lo;have h2:sg f.neg f.num/(f.den:Int)≤B:=Int.ediv_le_of_le_mul (by have:=h.den;omega) h.hi;rw [←hz] at h1 h2;have h3:=natAbs_sg f.neg (rnd f.num f.den f.neg);unfold flV;rw [if_pos (by omega)];exact ⟨h1,h2⟩
theorem Kt_mono{m:Nat}(h:m≤64):Kt m≤Kt 64:=by
  unfold Kt;exact Nat.mul_le_mul (by omega) (Nat.mul_le_mul_left _ (Nat.mul_le_mul (fact_mono (by omega)) (Nat.pow_le_pow_right (by decide) (by omega))))
theorem Kt_len{m:Nat}(h:m≤64){x:Nat}(hx:x≤Kt m):(limbs x).length≤100:=Xn (Nat.lt_of_le_of_lt (Nat.le_trans hx (Kt_mono h)) (by decide+kernel))
theorem sol_btw{n:Nat}{rs:List Rw}{c:List Int}{O:Oc}(h:Sol n rs c O)(hm:rs.length≤64){X Y:Nat→Int}(hX:Feas n rs 1 X)(hY:Dual n rs c 1 Y):
    O.kind=1∧Btw (rsum n c X) (sm (fun i=>cb rs i*Y i) rs.length) O.value:=by
  cases h with
  |opt D X' Y' val hX' hv hY' hw b1 b2 b3 b4=>
    refine ⟨rfl,btw_of hX'.den ?_ ?_⟩
    · have:=weak hX hY';rw [hw,Int.one_mul] at this;rw [Int.mul_comm];exact this
    · have:=weak hX' hY;rw [hv,Int.one_mul] at this;rw [Int.mul_comm];exact this
  |unb D X' Z hX' hZ=>exact (no_ray hZ hY).elim
  |emp D Y' hY' =>exact (no_refu hX hY').elim
theorem sol_len{n:Nat}{rs:List Rw}{c:List Int}{O:Oc}(h:Sol n rs c O)(hm:rs.length≤64):(limbs O.value.num).length≤100∧(limbs O.value.den).length≤100∧(O.kind=1→0<O.value.den):=by
  have h0:(limbs 0).length≤100:=by rw [limbs_zero];exact Nat.zero_le _
  cases h with
  |opt D X' Y' val hX' hv hY' hw b1 b2 b3 b4=>
    have hD:=hX'.den;have hr:=redF_q (decide (val<0)) val.natAbs D.natAbs (by omega);rw [sg_natAbs] at hr;have e:ofQ (shq val D)=redF (decide (val<0)) val.natAbs D.natAbs:=hr.symm;refine ⟨?_,?_,fun _=>(shq val D).den_pos⟩
    · show (limbs (ofQ (shq val D)).num).length≤100;rw [e];exact Nat.le_trans (Xr (Nat.div_le_self _ _)) (Kt_len hm b4)
    · show (limbs (ofQ (shq val D)).den).length≤100;rw [e];exact Nat.le_trans (Xr (Nat.div_le_self _ _)) (Kt_len hm b1)
  |unb=>exact ⟨h0,h0,fun h=>by cases h⟩
  |emp=>exact ⟨h0,h0,fun h=>by cases h⟩
theorem lpOf{n:Int}{rs:List Rw}{c:List Int}(hv:validR n rs=true)(hc:okCoeffs n c=true):∃N:Nat,n=N∧LpOk N rs c:=by
  obtain ⟨v1,v2,v3,v4⟩:=validR_spec hv;obtain ⟨N,rfl⟩:∃N:Nat,n=N:=⟨n.toNat,by omega⟩
  have bdd:∀xs:List Int,(∀y∈xs,y.natAbs≤1048576)→∀i,(xs.getD i 0).natAbs≤1048576:=fun xs hx i=>by
    rcases Nat.lt_or_ge i xs.length with h|h
    · exact hx _ (getD_mem h)
    · rw [getD_ge h];decide
  unfold okCoeffs at hc;rw [Bool.and_eq_true] at hc;have h1:=of_decide_eq_true hc.1
  have h2:∀y∈c,y.natAbs≤1048576:=fun y hy=>by
    have h3:c.any badC=false:=by simpa using hc.2
    have h4:=List.any_eq_false.1 h3 y hy;unfold badC at h4;simp only [Bool.or_eq_true,decide_eq_true_eq,not_or] at h4;omega
  exact ⟨N,rfl,⟨by omega,v3,by omega,bdd c h2,fun r hr=>by have:=(v4 r hr).1;omega,fun r hr=>bdd _ (v4 r hr).2.1,fun r hr=>(v4 r hr).2.2⟩⟩
end Go.Proofs.YtojkdfilabmafaaGreat
namespace Go.Proofs.YtojkdfilabmafaaGreat
open Go.Own Go.Limbs
attribute [local irreducible] St Ops Go.Own.Fin Ok OkB OkN OkT OkL OkF
theorem goCompact_Wr:InGo Tryz.prog 62:=InGo.of Tryz.func62 (by kernel_rfl) (by kernel_rfl)
set_option maxHeartbeats 4000000 in
theorem Compact_Wr_ok(l:List Wr)(hl:l.length≤1000000000):OkT Tryz.prog 62 37 2 (wrs l) [] (wrs (dd l)):=by
  refine OkT.enter Tryz.func62 J _ Tryz.ntmps62 J ?_
  intro S w h0;refine Qy (Qx fun K hK=> ?_);refine Qv J J J (Qj (hK _ _ (Qz (Qy (Qy ?_)))));clear hK K;refine Qx (fun K hK=> ?_);refine Qq J J J (YW l.length J J J (by decide) (wrs_len l) sWrs.und J ?_);refine Qk ilss J J J J (Qj (hK _ _ (Qz ?_)));clear hK K;refine Q2 J (fun h=> ?_) (fun h=> ?_)
  · rw [dd_small (l:=l) (by omega)];refine Qy (Qx fun K hK=> ?_);refine Qq J J J (Qv J J J (Qj (hK _ _ (Qz (Q4 (QY ?_))))));clear hK K;refine Yc J J J
  refine QW (Qz (Qy (Qy (Qx fun K hK=> ?_))));refine Qv J J J (Qj (hK _ _ (Qz (Q3 ?_))));clear hK K
  refine Qs (α:=Nat) (fun i=>i+1≤l.length∧dd (l.take (i+1))=l.take (i+1))
    (fun i=>[(0, .own 0),(3, .ct (intC (i+1)))]) (fun _=>[(0, .row 37 2 (wrs l))]) (fun i=>l.length - i) 0 ⟨by omega,dd_small (by rw [List.length_take];omega)⟩ (by exact Qu J ⟨rfl,rfl,trivial⟩) ?_
  rintro i ⟨hi,hd⟩
  try dsimp only at hi hd
  try dsimp only
  refine Qy (Qy (Qx fun K hK=> ?_));refine Qq J J J (Qq J J J (YW l.length J J J (by decide) (wrs_len l) sWrs.und J ?_));refine Qk ilss J J J J (Qj (hK _ _ (Qz ?_)));clear hK K;refine Q2 J (fun h=> ?_) (fun h=> ?_);rotate_left
  · have e:dd l=l:=by
      have:=hd;rw [List.take_of_length_le (by omega)] at this;exact this
    rw [e];refine Qm (Qz (Qy (Qx fun K hK=> ?_)));refine Qq J J J (Qv J J J (Qj (hK _ _ (Qz (Q4 ?_)))));clear hK K;refine Yc J J J
  refine QW (Qz (Qy (Q3 (Qy ?_))));refine XX mixed 10 (.p 0 (.p 1 (.p 2 (.p 4 (.p 5 (.p 6 (.p 7 (.f 3 (.f 8 (.p 9 .done)))))))))) (by kernel_rfl) (fun K hK=> ?_);refine Qq J J J (Qq J J J (XJ l.length J J J (wrs_len l) J sWrs (by omega) (by omega) J ?_));refine Qq J J J (Qq J J J (Qk (isub (by omega) (by omega)) J J J J ?_))
  refine XJ l.length J J J (wrs_len l) J sWrs (by omega) (by omega) J ?_
  skip
  refine ldE wrCs wr0 wr_len J J J J J (by omega) Zs J ?_
  refine ldE wrCs wr0 wr_len J J J J J (by omega) Zs J ?_
  rw [show ((i:Int)+1).toNat=i+1 by omega,show ((i:Int)+1 - 1).toNat=i by omega];generalize hx:l.getD i wr0=x;generalize hy:l.getD (i+1) wr0=y;refine eqWr y x J J J J J (Qj (hK _ _ (Qz ?_)));clear hK K;have hs:=dd_step (l:=l) (z:=wr0) (p:=i+1) (by omega) (by omega);rw [show i+1 - 1=i by omega,hx,hy] at hs;refine Q2 J (fun he=> ?_) (fun he=> ?_);rotate_left
  · refine QW (Qz (Qx fun K hK=> ?_));refine Qq J J J (Qk (iadd (by omega) (by omega)) J J J J ?_);refine Qv J J J (Qj (hK _ _ (Q6 ?_)));clear hK K;refine Q9 (i+1) (by omega) ⟨by omega,?_⟩ (by exact Qu J ⟨rfl,by simp only [Int.natCast_add];rfl,trivial⟩);rw [hs,if_neg he,hd,List.take_add_one (i:=i+1),List.getElem?_eq_getElem (by omega),←hy,List.getD_eq_getElem?_getD,List.getElem?_eq_getElem (by omega)];rfl
  rw [if_pos he,hd] at hs;refine St.nameS 0 0 l.length J J (wrs_len l) (by omega) (by decide) (fun gb c hc1 hc2=> ?_);refine Qy (Qx fun K hK=> ?_);refine Qq J J J (Qq J J J (Z4 (i+1) J J J (by omega) sWrs (by omega) J ?_));rw [if_neg (show ¬c=i+1 by omega),Nat.zero_add];refine Qv J J J (Qj (hK _ _ (Qz (Qy (Qy ?_)))));clear hK K;refine Qx (fun K hK=> ?_);refine Qv J J J (Qj (hK _ _ (Qz (Q3 ?_))));clear hK K
  refine Qs (α:=Nat) (fun j=>i+2+j≤l.length∧(dd (l.take (i+2+j))).length<i+2+j)
    (fun j=>[(0, .ct (.ex (kh gb 0 l.length c))),(3, .ct (intC (dd (l.take (i+2+j))).length)),(4, .ct (.ex (kh gb ((i+1)*2) (l.length - (i+1)) (c - (i+1))))),(5, .ct (intC (j+1)))])
    (fun j=>[(0, .rowx (kh gb 0 l.length c) 37 2 (wrs (dd (l.take (i+2+j))++l.drop (dd (l.take (i+2+j))).length)))]) (fun j=>l.length - j) 0
    ⟨by omega,by rw [Nat.add_zero,hs,List.length_take];omega⟩ (by
      rw [Nat.add_zero,hs,List.length_take,Nat.min_eq_left hi,List.take_append_drop]
      exact Qu J ⟨rfl,rfl,rfl,rfl,trivial⟩) ?_
  clear hs
  rintro j ⟨hj,hD⟩
  try dsimp only at hj hD
  try dsimp only
  have hs:=dd_step (l:=l) (z:=wr0) (p:=i+2+j) (by omega);generalize hDD:dd (l.take (i+2+j))=D at hs hD ⊢
  have hrl:(D++l.drop D.length).length=l.length:=by rw [List.length_append,List.length_drop];omega
  have hat:∀q,D.length≤q→(D++l.drop D.length).getD q wr0=l.getD q wr0:=fun q hq=>row_at D l q wr0 hq
  refine Qy (Qy (Qx fun K hK=> ?_));refine Qq J J J (Qq J J J (Yq J J sWrs.und J (Qk ilss J J J J (Qj (hK _ _ (Qz ?_))))));clear hK K;refine Q2 J (fun h2=> ?_) (fun h2=> ?_)
  · refine QW (Qz (Qy (Q3 (Qy ?_))));refine XX mixed 10 (.p 0 (.p 1 (.p 2 (.p 4 (.p 5 (.p 6 (.p 7 (.f 3 (.f 8 (.p 9 .done)))))))))) (by kernel_rfl) (fun K hK=> ?_);refine Qq J J J (Qq J J J (Z3 0 (i+1) J J J J sWrs (by omega) (by omega) J ?_));refine Qq J J J (Qq J J J (Qk (isub (by omega) (by omega)) J J J J ?_))
    refine Z3 0 (i+1) J J J J sWrs (by omega) (by omega) J ?_
    skip
    refine ldE wrCs wr0 wr_len J J J J J (by omega) Zs J ?_
    refine ldE wrCs wr0 wr_len J J J J J (by omega) Zs J ?_
    rw [show i+1+((j:Int)+1).toNat=i+2+j by omega,show i+1+((j:Int)+1 - 1).toNat=i+2+j - 1 by omega,hat _ (by omega),hat _ (by omega)];have hs:=hs (by omega);generalize hx2:l.getD (i+2+j - 1) wr0=x2 at hs ⊢;generalize hy2:l.getD (i+2+j) wr0=y2 at hs ⊢;refine neWr y2 x2 J J J J J (Qj (hK _ _ (Qz ?_)));clear hK K;refine Q2 J (fun he2=> ?_) (fun he2=> ?_)
    · rw [if_neg he2] at hs;refine Qy (Qx fun K hK=> ?_);refine Qq J J J (Qq J J J (Qq J J J (Qq J J J (Z3 0 (i+1) J J J J sWrs (by omega) (by omega) J ?_))))
      refine ldE wrCs wr0 wr_len J J J J J (by omega) Zs J ?_
      rw [show i+1+((j:Int)+1).toNat=i+2+j by omega,hat _ (by omega),hy2]
      refine Z3 0 0 J J J J sWrs (by omega) (by omega) J ?_
      rw [Nat.zero_add,show ((D.length:Int)).toNat=D.length by omega]
      refine stEX wrCs y2 wr_len J J J J J (by omega) szWire ?_
      rw [row_set D l y2 (by omega)];refine Qj (hK _ _ (Qz ?_));clear hK K;refine Qx (fun K hK=> ?_);refine Qq J J J (Qk (iadd (by omega) (by omega)) J J J J ?_);refine Qv J J J (Qj (hK _ _ (Qz ?_)));clear hK K;refine Qx (fun K hK=> ?_);refine Qq J J J (Qk (iadd (by omega) (by omega)) J J J J ?_);refine Qv J J J (Qj (hK _ _ (Q6 ?_)));clear hK K
      refine Q9 (j+1) (by omega) ⟨by omega,by show (dd (l.take (i+2+j+1))).length<_;rw [hs,List.length_append];show D.length+1<_;omega⟩ ?_
      rw [show i+2+(j+1)=i+2+j+1 by omega,hs,List.length_append];exact Qu J ⟨rfl,by simp only [Int.natCast_add];rfl,rfl,by simp only [Int.natCast_add];rfl,trivial⟩
    · rw [if_pos (Decidable.not_not.1 he2)] at hs;refine QW (Qz (Qx fun K hK=> ?_));refine Qq J J J (Qk (iadd (by omega) (by omega)) J J J J ?_);refine Qv J J J (Qj (hK _ _ (Q6 ?_)));clear hK K
      refine Q9 (j+1) (by omega) ⟨by omega,by show (dd (l.take (i+2+j+1))).length<_;rw [hs];omega⟩ ?_
      rw [show i+2+(j+1)=i+2+j+1 by omega,hs];exact Qu J ⟨rfl,rfl,rfl,by simp only [Int.natCast_add];rfl,trivial⟩
  · have e:dd l=D:=by rw [←hDD,List.take_of_length_le (by omega)]
    rw [e];refine Qm (Qz (Qy (Qx fun K hK=> ?_)));refine Qq J J J (Qq J J J (Z4 D.length J J J J sWrs (by omega) J ?_));skip
    refine Ops.cutOff 0 D.length J (by show (wrs _).length=_;rw [wrs_len,hrl]) (by decide) (by omega) (by show (wrs _).take _=wrs D;rw [wrs_take,List.take_left]) ?_
    refine Ops.clearK 0 J J (by split <;>omega) J (wrs_len D) (by omega) sWrs (by decide) ?_
    refine Qj (hK _ _ (Qz (Qy ?_)));clear hK K;refine Qx (fun K hK=> ?_);refine Qq J J J (Qq J J J (Ya D.length J J J J sWrs (by omega) J ?_));refine Qv J J J (Qj (hK _ _ (Qz (Q4 (Qb (QY (QY (Qb (QY ?_)))))))));clear hK K;refine Fin.link 2 0 J J (Yc J J J)
attribute [local irreducible] OkM
abbrev Stm := Tk × Int
abbrev stmI (s : Stm) : List Int := [s.1.va, (s.1.ds.val : Int), s.1.pr, s.2]
abbrev stmE (s : Stm) : Value := Go.Own.encI ([.i64, .u32, .i64] ++ [.i64]) (stmI s)
abbrev stmV (s : Stm) : List Value := [.int .i64 s.1.va, .int .u32 (s.1.ds.val : Int), .int .i64 s.1.pr, .int .i64 s.2]
abbrev stmCs (s : Stm) : List CT := [intC s.1.va, adrF s.1.ds, intC s.1.pr, intC s.2]
theorem stmI_inj(a b:Stm)(h:stmI a=stmI b):a=b:=by
  obtain ⟨⟨a1,a2,a3⟩,a4⟩:=a;obtain ⟨⟨b1,b2,b3⟩,b4⟩:=b;simp only [List.cons.injEq,and_true,Int.ofNat_inj,Fin.val_inj] at h;obtain ⟨h1,h2,h3,h4⟩:=h;rw [h1,h2,h3,h4]
theorem uMOwn:Tryz.prog.underlying 152=some (.map 123 24):=Tryz.underlying152
theorem z0Rss(w:World):(zeroValue 24).run Tryz.prog w= .ok (.slice none 0 0) w:=ZQ (by kernel_rfl) w
theorem z0Ads(w:World):(zeroValue 93).run Tryz.prog w= .ok (.slice none 0 0) w:=ZQ (by kernel_rfl) w
abbrev tkE (t : Tk) : Value := Go.Own.encI [.i64, .u32, .i64] (tkI t)
abbrev tkVs (t : Tk) : List Value := [.int .i64 t.va, .int .u32 (t.ds.val : Int), .int .i64 t.pr]
abbrev OwM := List (Tk × List Rs)
def owF (l : List Rs) : OwM := (trsF l).foldl (fun m t => ins m t (ofF l t)) []
abbrev owM (m : OwM) : List (Value × CT) := kvs tkE rssC m
abbrev adsC (l : List (Fin 4294967296)) : CT := .fr (sliceT 1 (l.map fun x => [adrF x]))
abbrev KnM := List (Stm × List (Fin 4294967296))
abbrev knM (m : KnM) : List (Value × CT) := kvs stmE adsC m
theorem owF_look(l:List Rs)(t:Tk):(look1 (owF l) t).getD []=ofF l t:=by
  have key:∀(q:List Tk) (m:OwM),look1 (q.foldl (fun m t=>ins m t (ofF l t)) m) t=if t∈q then some (ofF l t) else look1 m t:=by
    intro q
    induction q with
    |nil=>intro m;rw [if_neg (by simp)];rfl
    |cons x q ih=>
      intro m;rw [List.foldl_cons,ih,look1_ins];by_cases h:t∈q
      · rw [if_pos h,if_pos (List.mem_cons_of_mem _ h)]
      · rw [if_neg h];by_cases e:t=x
        · subst e;rw [if_pos rfl,if_pos (List.mem_cons_self ..)]
        · rw [if_neg e,if_neg (fun hm=>(List.mem_cons.1 hm).elim e h)]
  unfold owF;rw [key];by_cases h:t∈trsF l
  · rw [if_pos h];rfl
  · rw [if_neg h];show []=ofF l t;unfold ofF
    symm
    refine List.filter_eq_nil_iff.2 fun r hr=> ?_
    intro he
    refine h ?_
    have hm:=((sd_spec ordR (l.filter okR)).2 r).1 hr;exact ((sd_spec ordT ((l.filter okR).map trOf)).2 t).2 (List.mem_map.2 ⟨r,hm,of_decide_eq_true he⟩)
def knOk (l : List Rs) (m : KnM) : Prop := ∀ s p, look1 m s = some p → p = pathF (ofF l s.1) s.2
end Go.Proofs.YtojkdfilabmafaaGreat
namespace Go.Own
open Go.RowKit
variable {X : Ctx} {L : AL} {B : BL} {ops : Array Oper} {K : Act → World → Prop}
theorem Fin.linkX(dd i:Nat){v:Value}{el n:Nat}{cs:List CT}(hd:look L dd=some (.ct (.ex v)))(hi:bget B i=some (.rowx v el n cs))(h:Fin X ((dd, .own i)::L) B K):Fin X L B K:=fun a ρ w hI=>by
  have h1:a.tmps.getD dd undef=v:=hI.slot dd _ hd
  obtain ⟨h2,_⟩:=(hI.ent i _ hi).1
  exact h a ρ w (hI.slotx (s:= .own i) (h1.trans h2.symm))
theorem Ops.linkX{l:Pl}(dd i:Nat){v:Value}{el n:Nat}{cs:List CT}(hd:look L dd=some (.ct (.ex v)))(hi:bget B i=some (.rowx v el n cs))(h:Ops X ops l ((dd, .own i)::L) B K):Ops X ops l L B K:=Fin.linkX dd i hd hi h
end Go.Own
namespace Go.Proofs.YtojkdfilabmafaaGreat
open Go.Own
attribute [local irreducible] St Ops Go.Own.Fin Ok OkB OkN OkT OkL OkF wpR
abbrev Ad := Fin 4294967296
theorem sAdrs:SlcT Tryz.prog 93 35 1 4 (.int .u32 0):=SlcT.of Tryz.underlying93 (by kernel_rfl) rfl (by decide)
theorem sPths:SlcT Tryz.prog 94 93 1 24 (.slice none 0 0):=SlcT.of Tryz.underlying94 (by kernel_rfl) rfl (by decide)
theorem lAdrs:Ld1 Tryz.prog 93:=Ld1.of _ Tryz.underlying93 rfl
theorem lPths:Ld1 Tryz.prog 94:=Ld1.of _ Tryz.underlying94 rfl
theorem zPths:(Tryz.prog.info? 94).map (·.size)=some 1:=by kernel_rfl
abbrev zNet : Value := .agg #[.int .i64 0, .int .u32 0, .int .i64 0, .slice none 0 0, .int .u32 0]
abbrev adrsC (p : List Ad) : CT := .fr (sliceT 1 (p.map fun x => [adrF x]))
def adrs (p : List Ad) : List CT := p.map adrF
theorem adrs_frozen(e:Nat)(p:List Ad):(Ent.row e 1 (adrs p)).frozen (sliceT 1 (p.map fun x=>[adrF x])):=
  ⟨p.map fun x=>[adrF x],(flat_one adrF p).symm,by simp,by decide,rfl⟩
theorem adrs_at{p:List Ad}{j:Int}(h0:0≤j)(h:j<(p.length:Int)):(p.map fun x=>[adrF x])[j.toNat]? =some [adrF (p.getD j.toNat 0)]:=by
  have hl:j.toNat<p.length:=by omega
  rw [List.getElem?_map,List.getElem?_eq_getElem hl,List.getD_eq_getElem?_getD,List.getElem?_eq_getElem hl];rfl
abbrev pthsC (ps : List (List Ad)) : CT := .fr (sliceT 1 (ps.map fun p => [adrsC p]))
def pths (ps : List (List Ad)) : List CT := ps.map adrsC
theorem pths_at{ps:List (List Ad)}{j:Int}(h0:0≤j)(h:j<(ps.length:Int)):(ps.map fun x=>[adrsC x])[j.toNat]? =some [adrsC (ps.getD j.toNat [])]:=by
  have hl:j.toNat<ps.length:=by omega
  rw [List.getElem?_map,List.getElem?_eq_getElem hl,List.getD_eq_getElem?_getD,List.getElem?_eq_getElem hl];rfl
structure Nt where
  va : Int
  ds : Ad
  pr : Int
  ps : List (List Ad)
  la : Ad
abbrev ntCs (q : Nt) : List CT := [intC q.va, adrF q.ds, intC q.pr, pthsC q.ps, adrF q.la]
structure NtIn (q : Nt) : Prop where
  v0 : 0 ≤ q.va
  v1 : q.va < 2
  d0 : q.ds ≠ 0
  p0 : q.pr = 17 ∨ q.pr = 1 ∨ q.pr = 6
  a0 : q.la ≠ 0
  l0 : 1 ≤ q.ps.length
  l1 : q.ps.length ≤ 3
  pl : ∀ p ∈ q.ps, 1 ≤ p.length ∧ p.length ≤ 3
def nts (l : List Nt) : List CT := (l.map ntCs).flatten
end Go.Proofs.YtojkdfilabmafaaGreat
namespace Go.Proofs.YtojkdfilabmafaaGreat
open Go.Own Go.Limbs Go.Shelf
open Go.Sort hiding Ok
attribute [local irreducible] St Ops Go.Own.Fin Ok OkB OkN OkT OkL OkF
def wsG : _root_.Fin 4294967296 → List (_root_.Fin 4294967296) → List Wr
  | _, [] => []
  | p, a :: l => (p, a) :: wsG a l
theorem wsG_len:∀(l:List (_root_.Fin 4294967296)) (p:_root_.Fin 4294967296),(wsG p l).length=l.length
  | [],_=>rfl
  |a::l,p=>by rw [wsG,List.length_cons,wsG_len l a,List.length_cons]
def pvA (p : List (_root_.Fin 4294967296)) (i : Nat) : _root_.Fin 4294967296 := if i = 0 then 0 else p.getD (i - 1) 0
theorem wsG_snoc:∀(l:List (_root_.Fin 4294967296)) (q a:_root_.Fin 4294967296),wsG q (l++ [a])=wsG q l++ [(if l=[] then q else l.getD (l.length - 1) 0,a)]
  | [],q,a=>rfl
  |b::l,q,a=>by
    show (q,b)::wsG b (l++ [a])=_
    rw [wsG_snoc l b a]
    cases l with
    |nil=>rfl
    |cons c l=>
      show _=(q,b)::(wsG b (c::l)++ [(if b::c::l=[] then q else (b::c::l).getD ((b::c::l).length - 1) 0,a)])
      rw [if_neg (by simp),if_neg (by simp)]
      rfl
def wsO (p : List (_root_.Fin 4294967296)) : List Wr × Bool := if p.all (fun a => decide (a ≠ 0)) then (wsG 0 p, true) else ([], false)
theorem gowires:InGo Tryz.prog 88:=InGo.of Tryz.func88 rfl (by decide)
set_option maxHeartbeats 8000000 in
theorem wires_ok(p:List (_root_.Fin 4294967296))(hl:p.length≤1000000):Ok Tryz.prog 88 [adsC p] (.fr (tupT [wrsC (wsO p).1,boolC (wsO p).2])):=by
  refine Ok.enter Tryz.func88 J _ Tryz.ntmps88 J ?_
  intro S w;refine Qy (Qx fun K hK=> ?_);refine Qv J J J (Qv J J J (Qj (hK _ _ (Qz (Qy ?_)))));clear hK K;refine Qx (fun K hK=> ?_);refine Qv J J J (Qj (hK _ _ (Qz (Qy ?_))));clear hK K;refine Qx (fun K hK=> ?_);refine Qv J J J (Qj (hK _ _ (Qz (Qy (Qy ?_)))));clear hK K;refine Qx (fun K hK=> ?_);refine Qq J J J (Qh J J sAdrs.und (List.length_map ..) J (Qq J J J (Qj (hK _ _ (Qz (Q3 ?_))))));clear hK K
  refine YV 4 0 37 2 J J J ?_
  refine Qs (α:=Nat) (fun i=>i≤p.length∧∀a∈p.take i,a≠0)
    (fun i=>[(4, .own 0),(5, .ct (adrF (pvA p i))),(8, .ct (adsC p)),(9, .ct (intC p.length)),(10, .ct (intC i))])
    (fun i=>[(0, .row 37 2 (wrs (wsG 0 (p.take i))))]) (fun i=>p.length - i) 0 ⟨Nat.zero_le _,by simp⟩ (by exact Qu J ⟨rfl,rfl,rfl,rfl,rfl,trivial⟩) ?_
  intro i ⟨hi,hnz⟩
  try dsimp only at hi hnz ⊢
  refine Qy (Qx fun K hK=> ?_);refine Qk ilss J J J J (Qj (hK _ _ (Qz (Qy ?_))));clear hK K;refine Q2 J (fun h=> ?_) (fun h=> ?_);rotate_left
  · rw [List.take_of_length_le (by omega)] at hnz ⊢;have e:wsO p=(wsG 0 p,true):=if_pos (List.all_eq_true.2 fun a ha=>decide_eq_true (hnz a ha));rw [e];refine Qm (Qz (Qy (Qx fun K hK=> ?_)));refine Qq J J J (Qv J J J (Qv J J J (Qj (hK _ _ (Qz (Q4 ?_))))));clear hK K;refine Y4 0 _ J (wrs_frozen _ _) noBor_sub (Q1 [_,_] rfl (QX J (QX J QZ)) J J)
  have e2:(i:Int).toNat=i:=Int.toNat_natCast i
  have hs:p.take (i+1)=p.take i++ [p.getD i 0]:=by
    rw [List.take_add_one,List.getElem?_eq_getElem (by omega),List.getD_eq_getElem?_getD,List.getElem?_eq_getElem (by omega)];rfl
  have hw:wsG 0 (p.take (i+1))=wsG 0 (p.take i)++ [(pvA p i,p.getD i 0)]:=by
    rw [hs,wsG_snoc]
    congr 2
    unfold pvA;by_cases h0:i=0
    · subst h0;rfl
    · rw [if_neg (fun h=>by have:=congrArg List.length h;rw [List.length_take,List.length_nil] at this;omega),if_neg h0,List.length_take,Nat.min_eq_left hi,List.getD_eq_getElem?_getD,List.getElem?_take_of_lt (by omega),←List.getD_eq_getElem?_getD]
  have hp:pvA p (i+1)=p.getD i 0:=rfl
  have hwl:(wsG 0 (p.take i)).length=i:=by rw [wsG_len,List.length_take];omega
  have hmem:p.getD i 0∈p:=by rw [List.getD_eq_getElem?_getD,List.getElem?_eq_getElem (by omega)];exact List.getElem_mem _
  refine QW (Qz (Qy (Q3 (Qy (Qx fun K hK=> ?_)))))
  refine Xx J J J sAdrs (by omega) (adrs_at (by omega) (by omega)) J ?_
  rw [e2];generalize p.getD i 0=a at hs hw hp hmem;generalize pvA p i=b at hw;generalize wsG 0 (p.take i)=ws at hw hwl ⊢;refine X1 J J J lAddr J (Qv J J J (Qj (hK _ _ (Qz (Qy (Qy ?_))))));clear hK K;refine Qx (fun K hK=> ?_);refine Qq J J J (Qk ieql J J J J (Qj (hK _ _ (Qz ?_))));clear hK K;refine Q2 J (fun h2=> ?_) (fun h2=> ?_)
  · have h2:a=0:=_root_.Fin.ext (by have e0:((0:_root_.Fin 4294967296).val)=0:=rfl;omega);have e:wsO p=([],false):=if_neg (by rw [List.all_eq_true];exact fun h=>of_decide_eq_true (h a hmem) h2);rw [e];refine Qy (Qx fun K hK=> ?_);refine Qv J J J (Qv J J J (Qj (hK _ _ (Qz (Q4 (QY (Qb (QY (QY (Qb (QY ?_)))))))))));clear hK K;refine Q1 [_,_] rfl (X7 YQ (QX J (QX J QZ))) J J
  have h2:a≠0:=fun h=>h2 (by rw [h];rfl)
  refine QW (Qz (Qy (Qx fun K hK=> ?_)));refine Qq J J J (Qq J J J (Qq J J J (Qo J bWire J (.one J J J J (.one J J J J .nil)) J (Zo (n:=2) J J sWrs J J (by decide) J ?_))))
  refine Qt ws.length (wrs (ws++ [(b,a)])) J J J J sWrs (wrs_len ws) J (by omega) (by omega) (wrs_snoc ws (b,a)) J ?_
  refine Qv J J J (Qj (hK _ _ (Qz ?_)));clear hK K;refine Qx (fun K hK=> ?_);refine Qq J J J (Qv J J J (Qj (hK _ _ (Qz ?_))));clear hK K;refine Qx (fun K hK=> ?_)
  refine Qk (iadd (by omega) (by omega)) J J J J ?_
  refine Qq J J J (Qj (hK _ _ (Q6 ?_)));clear hK K;refine Q9 (i+1) (by omega) ⟨by omega,fun x hx=> ?_⟩ (by rw [hw,hp];exact Qu J ⟨rfl,rfl,rfl,rfl,by simp only [Int.natCast_add];rfl,trivial⟩);rw [hs] at hx;rcases List.mem_append.1 hx with hx|hx
  · exact hnz x hx
  · rw [List.mem_singleton] at hx;rw [hx];exact h2
theorem goDcmp:InGo Tryz.prog 50:=InGo.of Tryz.func50 rfl (by decide)
theorem Dcmp_ok(a b:Wr):Ok Tryz.prog 50 [wrC a,wrC b] (intC (cmpW a b)):=by
  have e0:cmpW a b=firstN [cmp3 a.1.val b.1.val,cmp3 a.2.val b.2.val]:=by
    unfold cmpW wrI;simp only [cmpL,firstN]
  rw [e0];clear e0;have h1:=cmA_ok (a.1.val:Int) (b.1.val:Int);have h2:=cmA_ok (a.2.val:Int) (b.2.val:Int);have hO:=Or_ok [cmp3 a.1.val b.1.val,cmp3 a.2.val b.2.val] (by simp);generalize cmp3 (a.1.val:Int) (b.1.val:Int)=c1 at h1 hO ⊢;generalize cmp3 (a.2.val:Int) (b.2.val:Int)=c2 at h2 hO ⊢
  refine Ok.enter Tryz.func50 J _ Tryz.ntmps50 J ?_
  intro S w;refine Qy (Qx fun K hK=> ?_);refine Xu 0 J J J J J J J (Xu 1 J J J J J J J (Qv J J J (Qj (hK _ _ (Qz (Qy ?_))))));clear hK K;refine XX mixed 13 (.p 0 (.p 2 (.p 5 (.p 7 (.f 1 (.f 3 (.f 6 (.f 8 (.m 4 (.m 9 (.m 10 (.m 11 (.p 12 .done))))))))))))) (by kernel_rfl) (fun K hK=> ?_);refine QJ J J J fWr0 J (QJ J J J fWr0 J (QJ J J J fWr1 J (QJ J J J fWr1 J (QQ J J J J J lAddr J (QQ J J J J J lAddr J (QQ J J J J J lAddr J (QQ J J J J J lAddr J (QV gocmA h1 J J J J (QV gocmA h2 J J J J (Ops.litI [c1,c2] rfl rfl sInts J ⟨rfl,rfl,rfl,rfl,trivial⟩ (by decide) J ?_))))))))));refine QV goOr hO J J J J (Qv J J J (Qj (hK _ _ (Qz (Q4 ?_)))));clear hK K;refine Q1 [_] rfl (QX J QZ) J J
abbrev cmpDV : CT := .ex (.func (.func 50) #[] #[])
theorem SortD_ok(l:List Wr)(hl:l.length<4611686018427387904):OkL Tryz.prog 61 37 2 (wrs l) [cmpDV] unitC (wrs (l.mergeSort fun x y=> !(ltOf cmpW) y x)):=
  sortFunc_L laySortW (enc:=wr2) (k:=2) (cf:=cmpW) (g:=50) (by decide) Tryz.isAgg37 Tryz.sizeOf37 (fun _=>rfl) (fun x v hv=>one_two x v hv)
    ordW.swo ordW.tot goDcmp Dcmp_ok 37 l hl
end Go.Proofs.YtojkdfilabmafaaGreat
namespace Go.Proofs.YtojkdfilabmafaaGreat
open Go.Own Go.Limbs
attribute [local irreducible] St Ops Go.Own.Fin Ok OkB OkN OkT OkL OkF
abbrev spE (s : Sp) : Value := Go.Own.encI [.i64, .i64] [s.1, s.2]
theorem eqSp:EqS Tryz.prog 228 [.i64, .i64]:=⟨by kernel_rfl,by kernel_rfl,by kernel_rfl,by kernel_rfl⟩
theorem Xi:KeyT Tryz.prog 228 spE:=eqSp.flat.key (fun s:Sp=>[s.1,s.2]) (fun _=>rfl) (fun a b h=>by
  obtain ⟨a1,a2⟩:=a;obtain ⟨b1,b2⟩:=b
  simp only [List.cons.injEq,and_true] at h
  rw [h.1,h.2])
theorem uMAd:Tryz.prog.underlying 221=some (.map 228 35):=Tryz.underlying221
theorem uMSt:Tryz.prog.underlying 222=some (.map 228 3):=Tryz.underlying222
theorem lMAd:Ld1 Tryz.prog 221:=Ld1.of _ Tryz.underlying221 rfl
theorem lMSt:Ld1 Tryz.prog 222:=Ld1.of _ Tryz.underlying222 rfl
theorem fV0:fldInfo Tryz.prog 224 0=some (0,some 1):=by kernel_rfl
theorem fV1:fldInfo Tryz.prog 224 1=some (1,some 1):=by kernel_rfl
theorem fV2:fldInfo Tryz.prog 224 2=some (2,some 1):=by kernel_rfl
theorem lView:LdN Tryz.prog 224 3:=LdN.of _ Tryz.underlying224 rfl (by kernel_rfl)
theorem szView:(Tryz.prog.info? 224).map (·.size)=some 3:=by kernel_rfl
theorem zvView:(Tryz.prog.info? 224).map (·.zero)=some (some (.agg #[.int .i64 0, .map none, .map none])):=by kernel_rfl
theorem bView:bInfo Tryz.prog 224=some (.agg #[.int .i64 0, .map none, .map none],[(0,some 1),(1,some 1),(2,some 1)]):=by kernel_rfl
theorem Yf:LdN Tryz.prog 228 2:=LdN.of _ Tryz.underlying228 rfl (by kernel_rfl)
theorem szSpot:(Tryz.prog.info? 228).map (·.size)=some 2:=by kernel_rfl
theorem zvSpot:(Tryz.prog.info? 228).map (·.zero)=some (some (.agg #[.int .i64 0, .int .i64 0])):=by kernel_rfl
theorem bSpot:bInfo Tryz.prog 228=some (.agg #[.int .i64 0, .int .i64 0],[(0,some 1),(1,some 1)]):=by kernel_rfl
theorem z0Int(w:World):(zeroValue 3).run Tryz.prog w= .ok (.int .i64 0) w:=ZQ (by kernel_rfl) w
theorem z0Adr(w:World):(zeroValue 35).run Tryz.prog w= .ok (.int .u32 0) w:=ZQ (by kernel_rfl) w
abbrev adM (m : AdM) : List (Value × CT) := kvs spE adrF m
abbrev stM (m : StM) : List (Value × CT) := kvs spE intC m
abbrev viewC (e : Int) (m : AdM × StM) : CT := .fr (aggT [intC e, .fr (mapT (adM m.1)), .fr (mapT (stM m.2))])
theorem goHas:InGo Tryz.prog 151:=InGo.of Tryz.func151 rfl (by decide)
theorem Has_ok(e fl tt:Int)(m:AdM × StM):Ok Tryz.prog 151 [viewC e m,intC fl,intC tt] (boolC (hasS m.2 fl tt)):=by
  have e0:hasS m.2 fl tt=(decide ((look1 m.2 (fl,tt)).getD 0=2)||decide ((look1 m.2 (fl,tt)).getD 0=1)):=rfl
  refine Ok.enter Tryz.func151 J _ Tryz.ntmps151 J ?_
  intro S w;refine Qy (Qx fun K hK=> ?_);refine Xu 0 J J J J J J J (Qv J J J (Qj (hK _ _ (Qz (Qy ?_)))));clear hK K;refine Qx (fun K hK=> ?_);refine QJ J J J fV2 J (QQ J J J J J lMSt J (Qq J J J (Qq J J J (Qo J bSpot J (.one J J J J (.one J J J J .nil)) J (Ops.lookF (cv:=intC) (enc:=spE) 0 (fl,tt) J J J (KeyIs.agg (us:=[.int .i64 fl, .int .i64 tt]) J) uMSt z0Int (fun _ _=>rfl) Xi J ?_)))));generalize (look1 m.2 (fl,tt)).getD 0=q at e0;refine Qv J J J (Qj (hK _ _ (Qz (Qy ?_))));clear hK K;refine Qx (fun K hK=> ?_);refine Qq J J J (Qk ieql J J J J (Qq J J J (Qi 16 (p:=q=2) J (fun h=> ?_) (fun h=> ?_))))
  · refine Qw J J J (Qw J J J (Q5 J J J J (Qv J J J (Qj (hK _ _ (Qz (Q4 ?_)))))));clear hK K;refine Q1 [_] rfl (QX J QZ) (by rw [e0,decide_eq_true h,Bool.true_or];rfl) J
  · refine Qq J J J (Qk ieql J J J J (Q7 J J J J (Qv J J J (Qj (hK _ _ (Qz (Q4 ?_)))))));clear hK K;refine Q1 [_] rfl (QX J QZ) (by rw [e0,decide_eq_false h,Bool.false_or];rfl) J
theorem goLook:InGo Tryz.prog 150:=InGo.of Tryz.func150 rfl (by decide)
set_option maxHeartbeats 8000000 in
theorem Look_ok(l:List Rs)(hl:l.length≤100000):Ok Tryz.prog 150 [rssC l] (viewC (endF l) (lookG l)):=by
  have hE:=End_ok l hl;have e0:lookG l=l.foldl (lookS (endF l)) ([],[]):=rfl;rw [e0];clear e0;generalize endF l=e at hE ⊢
  refine Ok.enter Tryz.func150 J _ Tryz.ntmps150 J ?_
  intro S w;refine Qy (Qx fun K hK=> ?_);refine Qf 0 J J zvView J J J (Qj (hK _ _ (Qz (Qy ?_))));clear hK K;refine Qx (fun K hK=> ?_);refine Qq J J J (QV goEnd hE J J J J (Ops.mkMap 8 J J J J J (fun v1 hv1=> ?_)));refine Ops.mkMap 9 J J J J J (fun v2 hv2=> ?_);refine Qo J bView J (.one J J J J (.one J J hv1 J (.one J J hv2 J .nil))) J (Qf 1 J J zvView J J J (Qa 3 J J J J (by show (true&&(Value.oneCell' v1&&(Value.oneCell' v2&&true)))=true;rw [hv1,hv2];rfl) szView J J ?_));refine Qj (hK _ _ (Qz (Qy (Qy ?_))));clear hK K;refine Qx (fun K hK=> ?_);refine Qq J J J (Qh J J sRes.und (List.length_map ..) J (Qq J J J (Qj (hK _ _ (Qz (Q3 ?_))))));clear hK K
  refine Qs (α:=Nat) (fun i=>i≤l.length)
    (fun i=>[(2, .own 0),(3, .own 1),(13, .ct (rssC l)),(14, .ct (intC l.length)),(15, .ct (intC i))])
    (fun i=>[(1, .box 224 [intC e, .ex v1, .ex v2]),(9, .mpx v2 (stM ((l.take i).foldl (lookS e) ([],[])).2)),(8, .mpx v1 (adM ((l.take i).foldl (lookS e) ([],[])).1)),(0, .box 224 [intC 0, .ex (.map none), .ex (.map none)])])
    (fun i=>l.length - i) 0 (Nat.zero_le _) (by exact Qu J ⟨rfl,rfl,rfl,rfl,rfl,trivial⟩) ?_
  intro i hi
  try dsimp only at hi ⊢
  refine Qy (Qx fun K hK=> ?_);refine Qk ilss J J J J (Qj (hK _ _ (Qz (Qy ?_))));clear hK K;refine Q2 J (fun h=> ?_) (fun h=> ?_)
  · have e2:(i:Int).toNat=i:=Int.toNat_natCast i;have hs:=foldl_take (lookS e) ([],[]) (z:=rs0) (l:=l) (i:=i) (by omega);generalize (l.take i).foldl (lookS e) ([],[])=m at hs ⊢
    have next:∀m' :AdM × StM,lookS e m (l.getD i rs0)=m'→(l.take (i+1)).foldl (lookS e) ([],[])=m' :=fun m' h=>by rw [hs,h]
    clear hs;refine QW (Qz (Qy ?_))
    refine YJ (α:=AdM × StM) (fun q=>lookS e m (l.getD i rs0)=q) (fun _=>[(2, .own 0),(3, .own 1),(13, .ct (rssC l)),(14, .ct (intC l.length)),(15, .ct (intC i))])
      (fun q=>[(1, .box 224 [intC e, .ex v1, .ex v2]),(9, .mpx v2 (stM q.2)),(8, .mpx v1 (adM q.1)),(0, .box 224 [intC 0, .ex (.map none), .ex (.map none)])]) (fun q hq=> ?_) (fun KN hM=> ?_)
    · have en:=next q hq;refine Qx (fun K hK=> ?_)
      refine Qk (iadd (by omega) (by omega)) J J J J ?_
      refine Qq J J J (Qj (hK _ _ (Q6 ?_)));clear hK K;refine Q9 (i+1) (by omega) (by omega) (by rw [en];exact Qu J ⟨rfl,rfl,rfl,rfl,by simp only [Int.natCast_add];rfl,trivial⟩)
    clear next;refine Q3 (Qy (Qx (fun K hK=> ?_)))
    refine Xx J J J sRes (by omega) (rss_at (by omega) (by omega)) J ?_
    rw [e2];generalize l.getD i rs0=c at hM ⊢;refine Xc (n:=17) J J J lRes J J (Qf 2 J J zvRes J J J (Qa 17 J J J J J szRes J J (Qj (hK _ _ ?_))));clear hK K
    refine Qz ?_
    have hU:=Usable_ok c
    have es:lookS e m c=if usR c=false∨(0<e∧e<c.tt) then m
      else if c.an=false then (m.1,ins m.2 (c.fl,c.tt) (max ((look1 m.2 (c.fl,c.tt)).getD 0) 1))
      else if (look1 m.2 (c.fl,c.tt)).getD 0≤1 then (ins m.1 (c.fl,c.tt) c.fr,ins m.2 (c.fl,c.tt) 2)
      else if (look1 m.2 (c.fl,c.tt)).getD 0=2∧(look1 m.1 (c.fl,c.tt)).getD 0≠c.fr then (ins m.1 (c.fl,c.tt) 0,ins m.2 (c.fl,c.tt) 3)
      else m:=rfl
    generalize usR c=ub at hU es;refine Qy (Qy ?_)
    refine YJ (α:=Bool) (fun b=>b=true↔(ub=false∨(0<e∧e<c.tt)))
      (fun b=>[(2, .own 0),(3, .own 1),(5, .own 2),(13, .ct (rssC l)),(14, .ct (intC l.length)),(15, .ct (intC i)),(33, .ct (boolC b))])
      (fun _=>[(2, .box 47 (rsCs c)),(1, .box 224 [intC e, .ex v1, .ex v2]),(9, .mpx v2 (stM m.2)),(8, .mpx v1 (adM m.1)),(0, .box 224 [intC 0, .ex (.map none), .ex (.map none)])]) (fun b hb=> ?_) (fun KK hN=> ?_)
    rotate_left
    · refine Qx (fun K hK=> ?_);refine Qc (n:=17) J J J J J lRes J (QV goUsable hU J J J J (Xz J J J (Qq J J J (Xd 22 (b:= !ub) J (fun h1=> ?_) (fun h1=> ?_)))))
      · refine Qw J J J (Qw J J J (Qw J J J (Qw J J J (Qw J J J (Qw J J J (Qw J J J (Qw J J J (Qw J J J (Qw J J J (Q5 J J J J (Qj (hK _ _ ?_))))))))))));clear hK K;exact Xk hN true (iff_of_true J (.inl (by simpa using h1))) (by exact Qu J ⟨rfl,rfl,rfl,rfl,rfl,rfl,rfl,trivial⟩)
      · have hub:ub=true:=by simpa using h1
        refine QJ J J J fV0 J (QQ J J J J J lInt J (Qk igtr J J J J (Qq J J J (Qi 26 (p:=0<e) J (fun h3=> ?_) (fun h3=> ?_)))))
        · refine QJ J J J fS7 J (QQ J J J J J lInt J (QJ J J J fV0 J (QQ J J J J J lInt J (Qk igtr J J J J (Q5 J J J J (Q7 J J J J (Qj (hK _ _ ?_))))))));clear hK K;exact Xk hN (decide (e<c.tt)) (by rw [decide_eq_true_iff];constructor;exact fun h=> .inr ⟨h3,h⟩;exact fun h=>h.elim (fun h=>by rw [hub] at h;cases h) (·.2)) (by exact Qu J ⟨rfl,rfl,rfl,rfl,rfl,rfl,rfl,trivial⟩)
        · refine Qw J J J (Qw J J J (Qw J J J (Qw J J J (Qw J J J (Q7 J J J J (Q7 J J J J (Qj (hK _ _ ?_))))))));clear hK K;exact Xk hN false (iff_of_false (by decide) (fun h=>h.elim (fun h=>by rw [hub] at h;cases h) (fun h=>h3 h.1))) (by exact Qu J ⟨rfl,rfl,rfl,rfl,rfl,rfl,rfl,trivial⟩)
    cases b with
    |true=>
      have es:lookS e m c=m:=by rw [es,if_pos (hb.1 J)]
      refine XZ J (Qm (Zl (Fin.blockE ?_)));exact Xk hM _ es (Qe 2 (by exact Qu J ⟨rfl,rfl,rfl,rfl,rfl,trivial⟩))
    |false=>
      rw [if_neg (fun h=>by have:=hb.2 h;cases this)] at es;refine Xy J (QW (Qz (Qy (Qx fun K hK=> ?_))));refine QJ J J J fS6 J (QQ J J J J J lInt J (QJ J J J fS7 J (QQ J J J J J lInt J (Qo J bSpot J (.one J J J J (.one J J J J .nil)) J (Qf 3 J J zvSpot J J J (Qa 2 J J J J J szSpot J J (Qj (hK _ _ (Qz (Qy ?_))))))))));clear hK K;refine Qx (fun K hK=> ?_);refine QJ J J J fV2 J (QQ J J J J J lMSt J (Qc (n:=2) J J J J J Yf J (Ops.lookM (i:=9) (cv:=intC) (enc:=spE) 0 (c.fl,c.tt) J J J J (KeyIs.agg (us:=[.int .i64 c.fl, .int .i64 c.tt]) J) uMSt z0Int (fun _ _=>rfl) Xi J ?_)));generalize (look1 m.2 (c.fl,c.tt)).getD 0=kn at es ⊢;refine Qv J J J (Qj (hK _ _ (Qz (Q3 (Qy ?_)))));clear hK K;refine Qx (fun K hK=> ?_);refine QJ J J J fS8 J (QQ J J J J J lBool1 J (Xz J J J (Qv J J J (Qj (hK _ _ (Qz ?_))))));clear hK K;refine X6 J (fun h1=> ?_) (fun h1=> ?_)
      · have h1' :c.an=false:=by simpa using h1
        rw [if_pos h1'] at es;refine Qx (fun K hK=> ?_);refine QJ J J J fV2 J (QQ J J J J J lMSt J (Qc (n:=2) J J J J J Yf J (Qq J J J (Ops.max2 J J J J (XQ (i:=9) (enc:=spE) (cv:=intC) (c.fl,c.tt) (max kn 1) J J J (KeyIs.agg (us:=[.int .i64 c.fl, .int .i64 c.tt]) J) J uMSt Xi (Qj (hK _ _ (Ql (Ql ?_)))))))));clear hK K;exact Xk hM _ es (Qe 3 (Qe 2 (by exact Qu J ⟨rfl,rfl,rfl,rfl,rfl,trivial⟩)))
      · have h1' :c.an=true:=by simpa using h1
        rw [if_neg (fun h=>by rw [h1'] at h;cases h)] at es;refine Qy (Qx fun K hK=> ?_);refine Qq J J J (Qk ileq J J J J (Qv J J J (Qj (hK _ _ (Qz ?_)))));clear hK K;refine Q2 J (fun h2=> ?_) (fun h2=> ?_)
        · rw [if_pos h2] at es;refine Yy mixed [9,10] (.p 0 (.p 3 (.p 6 (.p 7 (.f 1 (.f 2 (.m 4 (.m 5 (.m 8 (.a 9 (.a 10 .done .non) .non) (.a 9 (.f 8 (.a 10 .done .non)) .non)) (.m 8 (.m 5 (.a 9 (.a 10 .done .non) .non) (.a 9 (.f 5 (.a 10 .done .non)) .non)) (.a 9 (.f 5 (.f 8 (.a 10 .done .non))) .non))) (.m 5 (.m 4 (.m 8 (.a 9 (.a 10 .done .non) .non) (.a 9 (.f 8 (.a 10 .done .non)) .non)) (.m 8 (.m 4 (.a 9 (.a 10 .done .non) .non) (.a 9 (.f 4 (.a 10 .done .non)) .non)) (.a 9 (.f 4 (.f 8 (.a 10 .done .non))) .non))) (.m 8 (.m 4 (.m 5 (.a 9 (.a 10 .done .non) .non) (.a 9 (.f 5 (.a 10 .done .non)) .non)) (.m 5 (.m 4 (.a 9 (.a 10 .done .non) .non) (.a 9 (.f 4 (.a 10 .done .non)) .non)) (.a 9 (.f 4 (.f 5 (.a 10 .done .non))) .non))) (.a 9 (.f 4 (.f 5 (.f 8 (.a 10 .done .non)))) .non)))))))))) (by kernel_rfl) (fun K hK=> ?_);refine Qr (QJ J J J fV2 J (Qj (Qr (QJ J J J fV1 J (Qj (Qr (QJ J J J fS11 J (Qj (Qr (Z6 J J fN0 J (Qj (Xp (QQ J J J J J lMSt J (Qj (Xp (Qc (n:=2) J J J J J Yf J (Qj (XW ?_ ?_))))))))))))))))))
          · refine QQ J J J J J lMAd J (Qj (XW ?_ ?_))
            · refine Qc (n:=2) J J J J J Yf J (Qj (XW ?_ ?_))
              · refine QQ J J J J J lAddr J (Qj (Qn ?_ Q8));refine XQ (i:=9) (enc:=spE) (cv:=intC) (c.fl,c.tt) 2 J J J (KeyIs.agg (us:=[.int .i64 c.fl, .int .i64 c.tt]) J) J uMSt Xi (Qj (Qn ?_ Q8));refine XQ (i:=8) (enc:=spE) (cv:=adrF) (c.fl,c.tt) c.fr J J J (KeyIs.agg (us:=[.int .i64 c.fl, .int .i64 c.tt]) J) J uMAd Xi (Qj (Xv (hK _ _ ?_)));refine Ql (Ql ?_);exact Xk hM _ es (Qe 3 (Qe 2 (by exact Qu J ⟨rfl,rfl,rfl,rfl,rfl,trivial⟩)))
              refine Qn ?_ Q8
              refine XQ (i:=9) (enc:=spE) (cv:=intC) (c.fl,c.tt) 2 J J J (KeyIs.agg (us:=[.int .i64 c.fl, .int .i64 c.tt]) J) J uMSt Xi (Qj (Xp (QQ J J J J J lAddr J (Qj (Qn ?_ Q8)))));refine XQ (i:=8) (enc:=spE) (cv:=adrF) (c.fl,c.tt) c.fr J J J (KeyIs.agg (us:=[.int .i64 c.fl, .int .i64 c.tt]) J) J uMAd Xi (Qj (Xv (hK _ _ ?_)));refine Ql (Ql ?_);exact Xk hM _ es (Qe 3 (Qe 2 (by exact Qu J ⟨rfl,rfl,rfl,rfl,rfl,trivial⟩)))
            refine XW ?_ ?_
            · refine QQ J J J J J lAddr J (Qj (XW ?_ ?_))
              · refine Qc (n:=2) J J J J J Yf J (Qj (Qn ?_ Q8));refine XQ (i:=9) (enc:=spE) (cv:=intC) (c.fl,c.tt) 2 J J J (KeyIs.agg (us:=[.int .i64 c.fl, .int .i64 c.tt]) J) J uMSt Xi (Qj (Qn ?_ Q8));refine XQ (i:=8) (enc:=spE) (cv:=adrF) (c.fl,c.tt) c.fr J J J (KeyIs.agg (us:=[.int .i64 c.fl, .int .i64 c.tt]) J) J uMAd Xi (Qj (Xv (hK _ _ ?_)));refine Ql (Ql ?_);exact Xk hM _ es (Qe 3 (Qe 2 (by exact Qu J ⟨rfl,rfl,rfl,rfl,rfl,trivial⟩)))
              refine Qn ?_ Q8
              refine XQ (i:=9) (enc:=spE) (cv:=intC) (c.fl,c.tt) 2 J J J (KeyIs.agg (us:=[.int .i64 c.fl, .int .i64 c.tt]) J) J uMSt Xi (Qj (Xp (Qc (n:=2) J J J J J Yf J (Qj (Qn ?_ Q8)))));refine XQ (i:=8) (enc:=spE) (cv:=adrF) (c.fl,c.tt) c.fr J J J (KeyIs.agg (us:=[.int .i64 c.fl, .int .i64 c.tt]) J) J uMAd Xi (Qj (Xv (hK _ _ ?_)));refine Ql (Ql ?_);exact Xk hM _ es (Qe 3 (Qe 2 (by exact Qu J ⟨rfl,rfl,rfl,rfl,rfl,trivial⟩)))
            refine Qn ?_ Q8
            refine XQ (i:=9) (enc:=spE) (cv:=intC) (c.fl,c.tt) 2 J J J (KeyIs.agg (us:=[.int .i64 c.fl, .int .i64 c.tt]) J) J uMSt Xi (Qj (Xp (Qc (n:=2) J J J J J Yf J (Qj (Xp (QQ J J J J J lAddr J (Qj (Qn ?_ Q8))))))));refine XQ (i:=8) (enc:=spE) (cv:=adrF) (c.fl,c.tt) c.fr J J J (KeyIs.agg (us:=[.int .i64 c.fl, .int .i64 c.tt]) J) J uMAd Xi (Qj (Xv (hK _ _ ?_)));refine Ql (Ql ?_);exact Xk hM _ es (Qe 3 (Qe 2 (by exact Qu J ⟨rfl,rfl,rfl,rfl,rfl,trivial⟩)))
          refine XW ?_ ?_
          · refine Qc (n:=2) J J J J J Yf J (Qj (XW ?_ ?_))
            · refine QQ J J J J J lMAd J (Qj (XW ?_ ?_))
              · refine QQ J J J J J lAddr J (Qj (Qn ?_ Q8));refine XQ (i:=9) (enc:=spE) (cv:=intC) (c.fl,c.tt) 2 J J J (KeyIs.agg (us:=[.int .i64 c.fl, .int .i64 c.tt]) J) J uMSt Xi (Qj (Qn ?_ Q8));refine XQ (i:=8) (enc:=spE) (cv:=adrF) (c.fl,c.tt) c.fr J J J (KeyIs.agg (us:=[.int .i64 c.fl, .int .i64 c.tt]) J) J uMAd Xi (Qj (Xv (hK _ _ ?_)));refine Ql (Ql ?_);exact Xk hM _ es (Qe 3 (Qe 2 (by exact Qu J ⟨rfl,rfl,rfl,rfl,rfl,trivial⟩)))
              refine Qn ?_ Q8
              refine XQ (i:=9) (enc:=spE) (cv:=intC) (c.fl,c.tt) 2 J J J (KeyIs.agg (us:=[.int .i64 c.fl, .int .i64 c.tt]) J) J uMSt Xi (Qj (Xp (QQ J J J J J lAddr J (Qj (Qn ?_ Q8)))));refine XQ (i:=8) (enc:=spE) (cv:=adrF) (c.fl,c.tt) c.fr J J J (KeyIs.agg (us:=[.int .i64 c.fl, .int .i64 c.tt]) J) J uMAd Xi (Qj (Xv (hK _ _ ?_)));refine Ql (Ql ?_);exact Xk hM _ es (Qe 3 (Qe 2 (by exact Qu J ⟨rfl,rfl,rfl,rfl,rfl,trivial⟩)))
            refine XW ?_ ?_
            · refine QQ J J J J J lAddr J (Qj (XW ?_ ?_))
              · refine QQ J J J J J lMAd J (Qj (Qn ?_ Q8));refine XQ (i:=9) (enc:=spE) (cv:=intC) (c.fl,c.tt) 2 J J J (KeyIs.agg (us:=[.int .i64 c.fl, .int .i64 c.tt]) J) J uMSt Xi (Qj (Qn ?_ Q8));refine XQ (i:=8) (enc:=spE) (cv:=adrF) (c.fl,c.tt) c.fr J J J (KeyIs.agg (us:=[.int .i64 c.fl, .int .i64 c.tt]) J) J uMAd Xi (Qj (Xv (hK _ _ ?_)));refine Ql (Ql ?_);exact Xk hM _ es (Qe 3 (Qe 2 (by exact Qu J ⟨rfl,rfl,rfl,rfl,rfl,trivial⟩)))
              refine Qn ?_ Q8
              refine XQ (i:=9) (enc:=spE) (cv:=intC) (c.fl,c.tt) 2 J J J (KeyIs.agg (us:=[.int .i64 c.fl, .int .i64 c.tt]) J) J uMSt Xi (Qj (Xp (QQ J J J J J lMAd J (Qj (Qn ?_ Q8)))));refine XQ (i:=8) (enc:=spE) (cv:=adrF) (c.fl,c.tt) c.fr J J J (KeyIs.agg (us:=[.int .i64 c.fl, .int .i64 c.tt]) J) J uMAd Xi (Qj (Xv (hK _ _ ?_)));refine Ql (Ql ?_);exact Xk hM _ es (Qe 3 (Qe 2 (by exact Qu J ⟨rfl,rfl,rfl,rfl,rfl,trivial⟩)))
            refine Qn ?_ Q8
            refine XQ (i:=9) (enc:=spE) (cv:=intC) (c.fl,c.tt) 2 J J J (KeyIs.agg (us:=[.int .i64 c.fl, .int .i64 c.tt]) J) J uMSt Xi (Qj (Xp (QQ J J J J J lMAd J (Qj (Xp (QQ J J J J J lAddr J (Qj (Qn ?_ Q8))))))));refine XQ (i:=8) (enc:=spE) (cv:=adrF) (c.fl,c.tt) c.fr J J J (KeyIs.agg (us:=[.int .i64 c.fl, .int .i64 c.tt]) J) J uMAd Xi (Qj (Xv (hK _ _ ?_)));refine Ql (Ql ?_);exact Xk hM _ es (Qe 3 (Qe 2 (by exact Qu J ⟨rfl,rfl,rfl,rfl,rfl,trivial⟩)))
          refine XW ?_ ?_
          · refine QQ J J J J J lAddr J (Qj (XW ?_ ?_))
            · refine QQ J J J J J lMAd J (Qj (XW ?_ ?_))
              · refine Qc (n:=2) J J J J J Yf J (Qj (Qn ?_ Q8));refine XQ (i:=9) (enc:=spE) (cv:=intC) (c.fl,c.tt) 2 J J J (KeyIs.agg (us:=[.int .i64 c.fl, .int .i64 c.tt]) J) J uMSt Xi (Qj (Qn ?_ Q8));refine XQ (i:=8) (enc:=spE) (cv:=adrF) (c.fl,c.tt) c.fr J J J (KeyIs.agg (us:=[.int .i64 c.fl, .int .i64 c.tt]) J) J uMAd Xi (Qj (Xv (hK _ _ ?_)));refine Ql (Ql ?_);exact Xk hM _ es (Qe 3 (Qe 2 (by exact Qu J ⟨rfl,rfl,rfl,rfl,rfl,trivial⟩)))
              refine Qn ?_ Q8
              refine XQ (i:=9) (enc:=spE) (cv:=intC) (c.fl,c.tt) 2 J J J (KeyIs.agg (us:=[.int .i64 c.fl, .int .i64 c.tt]) J) J uMSt Xi (Qj (Xp (Qc (n:=2) J J J J J Yf J (Qj (Qn ?_ Q8)))));refine XQ (i:=8) (enc:=spE) (cv:=adrF) (c.fl,c.tt) c.fr J J J (KeyIs.agg (us:=[.int .i64 c.fl, .int .i64 c.tt]) J) J uMAd Xi (Qj (Xv (hK _ _ ?_)));refine Ql (Ql ?_);exact Xk hM _ es (Qe 3 (Qe 2 (by exact Qu J ⟨rfl,rfl,rfl,rfl,rfl,trivial⟩)))
            refine XW ?_ ?_
            · refine Qc (n:=2) J J J J J Yf J (Qj (XW ?_ ?_))
              · refine QQ J J J J J lMAd J (Qj (Qn ?_ Q8));refine XQ (i:=9) (enc:=spE) (cv:=intC) (c.fl,c.tt) 2 J J J (KeyIs.agg (us:=[.int .i64 c.fl, .int .i64 c.tt]) J) J uMSt Xi (Qj (Qn ?_ Q8));refine XQ (i:=8) (enc:=spE) (cv:=adrF) (c.fl,c.tt) c.fr J J J (KeyIs.agg (us:=[.int .i64 c.fl, .int .i64 c.tt]) J) J uMAd Xi (Qj (Xv (hK _ _ ?_)));refine Ql (Ql ?_);exact Xk hM _ es (Qe 3 (Qe 2 (by exact Qu J ⟨rfl,rfl,rfl,rfl,rfl,trivial⟩)))
              refine Qn ?_ Q8
              refine XQ (i:=9) (enc:=spE) (cv:=intC) (c.fl,c.tt) 2 J J J (KeyIs.agg (us:=[.int .i64 c.fl, .int .i64 c.tt]) J) J uMSt Xi (Qj (Xp (QQ J J J J J lMAd J (Qj (Qn ?_ Q8)))));refine XQ (i:=8) (enc:=spE) (cv:=adrF) (c.fl,c.tt) c.fr J J J (KeyIs.agg (us:=[.int .i64 c.fl, .int .i64 c.tt]) J) J uMAd Xi (Qj (Xv (hK _ _ ?_)));refine Ql (Ql ?_);exact Xk hM _ es (Qe 3 (Qe 2 (by exact Qu J ⟨rfl,rfl,rfl,rfl,rfl,trivial⟩)))
            refine Qn ?_ Q8
            refine XQ (i:=9) (enc:=spE) (cv:=intC) (c.fl,c.tt) 2 J J J (KeyIs.agg (us:=[.int .i64 c.fl, .int .i64 c.tt]) J) J uMSt Xi (Qj (Xp (QQ J J J J J lMAd J (Qj (Xp (Qc (n:=2) J J J J J Yf J (Qj (Qn ?_ Q8))))))));refine XQ (i:=8) (enc:=spE) (cv:=adrF) (c.fl,c.tt) c.fr J J J (KeyIs.agg (us:=[.int .i64 c.fl, .int .i64 c.tt]) J) J uMAd Xi (Qj (Xv (hK _ _ ?_)));refine Ql (Ql ?_);exact Xk hM _ es (Qe 3 (Qe 2 (by exact Qu J ⟨rfl,rfl,rfl,rfl,rfl,trivial⟩)))
          refine Qn ?_ Q8
          refine XQ (i:=9) (enc:=spE) (cv:=intC) (c.fl,c.tt) 2 J J J (KeyIs.agg (us:=[.int .i64 c.fl, .int .i64 c.tt]) J) J uMSt Xi (Qj (Xp (QQ J J J J J lMAd J (Qj (Xp (Qc (n:=2) J J J J J Yf J (Qj (Xp (QQ J J J J J lAddr J (Qj (Qn ?_ Q8)))))))))));refine XQ (i:=8) (enc:=spE) (cv:=adrF) (c.fl,c.tt) c.fr J J J (KeyIs.agg (us:=[.int .i64 c.fl, .int .i64 c.tt]) J) J uMAd Xi (Qj (Xv (hK _ _ ?_)));refine Ql (Ql ?_);exact Xk hM _ es (Qe 3 (Qe 2 (by exact Qu J ⟨rfl,rfl,rfl,rfl,rfl,trivial⟩)))
        · rw [if_neg h2] at es;refine Qy (XX mixed 13 (.p 0 (.p 1 (.p 2 (.p 3 (.p 7 (.p 8 (.f 4 (.f 5 (.f 6 (.f 9 (.p 10 (.p 11 (.p 12 .done))))))))))))) (by kernel_rfl) (fun K hK=> ?_));refine Qq J J J (Qk ieql J J J J (Qq J J J (Qi 67 (p:=kn=2) J (fun h3=> ?_) (fun h3=> ?_))))
          · refine QJ J J J fV1 J (QJ J J J fS11 J (Z6 J J fN0 J (QQ J J J J J lMAd J (Qc (n:=2) J J J J J Yf J (Ops.lookM (i:=8) (cv:=adrF) (enc:=spE) 0 (c.fl,c.tt) J J J J (KeyIs.agg (us:=[.int .i64 c.fl, .int .i64 c.tt]) J) uMAd z0Adr (fun _ _=>rfl) Xi J ?_)))));generalize (look1 m.1 (c.fl,c.tt)).getD 0=a at es ⊢;refine QQ J J J J J lAddr J (Qk ineq J J J J (Q5 J J J J (Qv J J J (Qj (hK _ _ (Qz ?_))))));clear hK K;refine Q2 J (fun h4=> ?_) (fun h4=> ?_)
            · rw [if_pos ⟨h3,fun h=>h4 (by rw [h])⟩] at es;refine Yy mixed [6,7] (.p 0 (.p 3 (.f 1 (.f 2 (.m 4 (.m 5 (.a 6 (.a 7 .done .non) .non) (.a 6 (.f 5 (.a 7 .done .non)) .non)) (.m 5 (.m 4 (.a 6 (.a 7 .done .non) .non) (.a 6 (.f 4 (.a 7 .done .non)) .non)) (.a 6 (.f 4 (.f 5 (.a 7 .done .non))) .non))))))) (by kernel_rfl) (fun K hK=> ?_);refine Qr (QJ J J J fV2 J (Qj (Qr (QJ J J J fV1 J (Qj (Xp (QQ J J J J J lMSt J (Qj (Xp (Qc (n:=2) J J J J J Yf J (Qj (XW ?_ ?_))))))))))))
              · refine QQ J J J J J lMAd J (Qj (XW ?_ ?_))
                · refine Qc (n:=2) J J J J J Yf J (Qj (Qn ?_ Q8));refine XQ (i:=9) (enc:=spE) (cv:=intC) (c.fl,c.tt) 3 J J J (KeyIs.agg (us:=[.int .i64 c.fl, .int .i64 c.tt]) J) J uMSt Xi (Qj (Qn ?_ Q8));refine XQ (i:=8) (enc:=spE) (cv:=adrF) (c.fl,c.tt) 0 J J J (KeyIs.agg (us:=[.int .i64 c.fl, .int .i64 c.tt]) J) J uMAd Xi (Qj (Xv (hK _ _ ?_)));refine Ql (Ql ?_);exact Xk hM _ es (Qe 3 (Qe 2 (by exact Qu J ⟨rfl,rfl,rfl,rfl,rfl,trivial⟩)))
                refine Qn ?_ Q8
                refine XQ (i:=9) (enc:=spE) (cv:=intC) (c.fl,c.tt) 3 J J J (KeyIs.agg (us:=[.int .i64 c.fl, .int .i64 c.tt]) J) J uMSt Xi (Qj (Xp (Qc (n:=2) J J J J J Yf J (Qj (Qn ?_ Q8)))));refine XQ (i:=8) (enc:=spE) (cv:=adrF) (c.fl,c.tt) 0 J J J (KeyIs.agg (us:=[.int .i64 c.fl, .int .i64 c.tt]) J) J uMAd Xi (Qj (Xv (hK _ _ ?_)));refine Ql (Ql ?_);exact Xk hM _ es (Qe 3 (Qe 2 (by exact Qu J ⟨rfl,rfl,rfl,rfl,rfl,trivial⟩)))
              refine XW ?_ ?_
              · refine Qc (n:=2) J J J J J Yf J (Qj (XW ?_ ?_))
                · refine QQ J J J J J lMAd J (Qj (Qn ?_ Q8));refine XQ (i:=9) (enc:=spE) (cv:=intC) (c.fl,c.tt) 3 J J J (KeyIs.agg (us:=[.int .i64 c.fl, .int .i64 c.tt]) J) J uMSt Xi (Qj (Qn ?_ Q8));refine XQ (i:=8) (enc:=spE) (cv:=adrF) (c.fl,c.tt) 0 J J J (KeyIs.agg (us:=[.int .i64 c.fl, .int .i64 c.tt]) J) J uMAd Xi (Qj (Xv (hK _ _ ?_)));refine Ql (Ql ?_);exact Xk hM _ es (Qe 3 (Qe 2 (by exact Qu J ⟨rfl,rfl,rfl,rfl,rfl,trivial⟩)))
                refine Qn ?_ Q8
                refine XQ (i:=9) (enc:=spE) (cv:=intC) (c.fl,c.tt) 3 J J J (KeyIs.agg (us:=[.int .i64 c.fl, .int .i64 c.tt]) J) J uMSt Xi (Qj (Xp (QQ J J J J J lMAd J (Qj (Qn ?_ Q8)))));refine XQ (i:=8) (enc:=spE) (cv:=adrF) (c.fl,c.tt) 0 J J J (KeyIs.agg (us:=[.int .i64 c.fl, .int .i64 c.tt]) J) J uMAd Xi (Qj (Xv (hK _ _ ?_)));refine Ql (Ql ?_);exact Xk hM _ es (Qe 3 (Qe 2 (by exact Qu J ⟨rfl,rfl,rfl,rfl,rfl,trivial⟩)))
              refine Qn ?_ Q8
              refine XQ (i:=9) (enc:=spE) (cv:=intC) (c.fl,c.tt) 3 J J J (KeyIs.agg (us:=[.int .i64 c.fl, .int .i64 c.tt]) J) J uMSt Xi (Qj (Xp (QQ J J J J J lMAd J (Qj (Xp (Qc (n:=2) J J J J J Yf J (Qj (Qn ?_ Q8))))))));refine XQ (i:=8) (enc:=spE) (cv:=adrF) (c.fl,c.tt) 0 J J J (KeyIs.agg (us:=[.int .i64 c.fl, .int .i64 c.tt]) J) J uMAd Xi (Qj (Xv (hK _ _ ?_)));refine Ql (Ql ?_);exact Xk hM _ es (Qe 3 (Qe 2 (by exact Qu J ⟨rfl,rfl,rfl,rfl,rfl,trivial⟩)))
            · rw [if_neg (fun h=>h.2 (Fin.ext (by omega)))] at es;refine QW (Ql (Ql ?_));exact Xk hM _ es (Qe 3 (Qe 2 (by exact Qu J ⟨rfl,rfl,rfl,rfl,rfl,trivial⟩)))
          · rw [if_neg (fun h=>h3 h.1)] at es;refine Qw J J J (Qw J J J (Qw J J J (Qw J J J (Qw J J J (Qw J J J (Qw J J J (Qw J J J (Q7 J J J J (Qv J J J (Qj (hK _ _ (Qz (Xy J (QW (Ql (Ql ?_))))))))))))))));clear hK K;exact Xk hM _ es (Qe 3 (Qe 2 (by exact Qu J ⟨rfl,rfl,rfl,rfl,rfl,trivial⟩)))
  · have hi' :i=l.length:=by omega
    have el:(l.take i).foldl (lookS e) ([],[])=l.foldl (lookS e) ([],[]):=by rw [hi',List.take_length]
    rw [el]
    refine St.frzM 8 1 1 J J J (fun _ h=>h.elim) ?_
    refine St.frzM 9 1 2 J J J (fun _ h=>h.elim) ?_
    refine Qm (Qz (Qy (Qx fun K hK=> ?_)));refine Qc (n:=3) J J J J J lView J (Qa 3 J J J J J szView J J (Qj (hK _ _ (Qz (Q4 ?_)))));clear hK K;refine Fin.end [_] rfl (Qg (n:=3) J J lView J QZ) J J
end Go.Proofs.YtojkdfilabmafaaGreat
namespace Go.Proofs.YtojkdfilabmafaaGreat
open Go.Own Go.Limbs
abbrev ESp := Tk × Int × Int
def plS (r : Rs) : ESp := (trOf r, r.fl, r.tt)
def plB (r : Rs) : Bool := r.an && usR r
abbrev SeenM := List (ESp × Fin 4294967296)
def clashG : SeenM → List Rs → Nat
  | _, [] => 0
  | m, r :: l =>
    if plB r = false then clashG m l + 1
    else if (look1 m (plS r)).isSome = true ∧ (look1 m (plS r)).getD 0 ≠ r.fr then 0
    else clashG (ins m (plS r) r.fr) l + 1
def conB (a b : Rs) : Bool := (plB a && plB b) && (decide (plS a = plS b) && decide (a.fr ≠ b.fr))
def witG (o : List Rs) : Option Nat :=
  let k := clashG [] o
  if k < o.length then (o.take k).findIdx? (fun a => conB a (o.getD k rs0)) else none
theorem clashG_le:∀(l:List Rs) (m:SeenM),clashG m l≤l.length
  | [],_=>Nat.le_refl _
  |r::l,m=>by
    simp only [clashG,List.length_cons]
    split
    · have:=clashG_le l m;omega
    · split
      · omega
      · have:=clashG_le l (ins m (plS r) r.fr);omega
theorem usR_tt{r:Rs}(h:usR r=true):1≤r.tt∧r.tt≤255:=by
  simp only [usR,okR,Bool.and_eq_true,decide_eq_true_eq] at h;have h1:=h.2.1;unfold ckE at h1;split at h1
  · cases h1
  · rename_i h2;unfold P1 at h2;omega
theorem hasS_tt{l:List Rs}{fl tt:Int}(h:hasS (lookG l).2 fl tt=true):1≤tt∧tt≤255:=by
  unfold hasS at h
  cases e:look1 (lookG l).2 (fl,tt) with
  |none=>rw [e] at h;simp at h
  |some v=>
    obtain ⟨_,r,_,hu,hs⟩:=lookG_keys l _ _ e
    injection hs with h1 h2
    rw [h2];exact usR_tt hu
theorem pathG_len(m:AdM × StM)(fl:Int):∀(k:Nat) (tt:Int),(pathG m fl k tt).length≤k
  |0,_=>Nat.le_refl _
  |k+1,tt=>by
    unfold pathG
    split
    · have:=pathG_len m fl k (tt+1);simp only [List.length_cons];omega
    · exact Nat.zero_le _
attribute [local irreducible] Go.Own.Fin Ok OkB OkF OkL OkN OkT Ops St
theorem goPath:InGo Tryz.prog 87:=InGo.of Tryz.func87 rfl (by decide)
set_option maxHeartbeats 4000000 in
theorem Path_ok(l:List Rs)(fl:Int)(hl:l.length≤100000):OkF Tryz.prog 87 [rssC l,intC fl] 35 1 (adrs (pathF l fl)):=by
  have hL:=Look_ok l hl
  have hb:∀tt,hasS (lookG l).2 fl tt=true→1≤tt∧tt≤255:=fun tt h=>hasS_tt h
  have e0:pathF l fl=pathG (lookG l) fl 256 1:=rfl;rw [e0];clear e0;generalize endF l=e at hL;generalize lookG l=m at hL hb ⊢
  refine OkF.enter Tryz.func87 J _ Tryz.ntmps87 J ?_
  intro S w;refine Qy (Qx fun K hK=> ?_);refine Qv J J J (Qj (hK _ _ (Qz (Qy ?_))));clear hK K;refine Qx (fun K hK=> ?_);refine Qq J J J (QV goLook hL J J J J (Qf 0 J J zvView J J J (Qa 3 J J J J J szView J J (Qj (hK _ _ (Qz (Qy ?_)))))));clear hK K;refine Qx (fun K hK=> ?_);refine Qv J J J (Qj (hK _ _ (Qz (Qy (Qy ?_)))));clear hK K;refine Qx (fun K hK=> ?_);refine Qv J J J (Qj (hK _ _ (Qz (Q3 ?_))));clear hK K
  refine YV 6 1 35 1 J J J ?_
  refine Qs (α:=List Ad) (fun pre=>pre.length≤255∧pathG m fl 256 1=pre++pathG m fl (256 - pre.length) (pre.length+1))
    (fun pre=>[(1, .ct (intC fl)),(5, .own 0),(6, .own 1),(7, .ct (intC (pre.length+1)))])
    (fun pre=>[(1, .row 35 1 (adrs pre)),(0, .box 224 [intC e, .fr (mapT (adM m.1)), .fr (mapT (stM m.2))])]) (fun pre=>256 - pre.length) [] ⟨Nat.zero_le _,rfl⟩ (by exact Qu J ⟨rfl,rfl,rfl,rfl,trivial⟩) ?_
  intro pre ⟨hp,hq⟩
  try dsimp only
  have hH:=Has_ok e fl (pre.length+1) m;have hb1:=hb (pre.length+1)
  have hun:∀k,pathG m fl (k+1) (pre.length+1)=if hasS m.2 fl (pre.length+1) then (look1 m.1 (fl,(pre.length:Int)+1)).getD 0::pathG m fl k (pre.length+1+1) else []:=fun _=>rfl
  generalize hasS m.2 fl (pre.length+1)=hs at hH hb1 hun;refine Qy (Qy (Qx fun K hK=> ?_));refine Qc (n:=3) J J J J J lView J (Qq J J J (Qq J J J (QV goHas hH J J J J (Qj (hK _ _ (Qz ?_))))));clear hK K;refine X6 J (fun h=> ?_) (fun h=> ?_)
  · have hl2:=hb1 h;obtain ⟨k,hk⟩:∃k,256 - pre.length=k+1:=⟨255 - pre.length,by omega⟩;rw [hk,hun,if_pos h] at hq;refine QW (Qz (Qy (Q3 (Qx fun K hK=> ?_))));refine Qq J J J (QJ J J J fV1 J (QQ J J J J J lMAd J (Qq J J J (Qq J J J (Qo J bSpot J (.one J J J J (.one J J J J .nil)) J (Ops.lookF (cv:=adrF) (enc:=spE) 0 (fl,(pre.length:Int)+1) J J J (KeyIs.agg (us:=[.int .i64 fl, .int .i64 ((pre.length:Int)+1)]) J) uMAd z0Adr (fun _ _=>rfl) Xi J ?_))))));generalize (look1 m.1 (fl,(pre.length:Int)+1)).getD 0=a at hq ⊢;skip;refine Xh J J sAdrs J J J (Qt pre.length (adrs (pre++ [a])) J J J J sAdrs (by simp [adrs]) J (by omega) (by omega) (by simp [adrs]) J ?_);refine Qv J J J (Qj (hK _ _ (Qz ?_)));clear hK K;refine Qx (fun K hK=> ?_);refine Qq J J J (Qk (iadd (by omega) (by omega)) J J J J ?_);refine Qv J J J (Qj (hK _ _ (Q6 ?_)));clear hK K;refine Q9 (pre++ [a]) (by rw [List.length_append];simp;omega) ⟨by rw [List.length_append];simp;omega,?_⟩ (by exact Qu J ⟨rfl,rfl,rfl,by simp only [List.length_append,List.length_cons,List.length_nil,Int.natCast_add];rfl,trivial⟩);rw [hq,List.length_append,List.append_assoc]
    have:256 - (pre.length+ [a].length)=k:=by simp;omega
    rw [this];simp
  · obtain ⟨k,hk⟩:∃k,256 - pre.length=k+1:=⟨255 - pre.length,by omega⟩;rw [hk,hun,if_neg (by rw [h];decide),List.append_nil] at hq;refine Qm (Qz (Qy (Qx fun K hK=> ?_)));refine Qq J J J (Qv J J J (Qj (hK _ _ (Qz (Q4 ?_)))));clear hK K;refine Fin.retF J J (by rw [hq];rfl) J
abbrev esI (s : ESp) : List Int := [s.1.va, (s.1.ds.val : Int), s.1.pr, s.2.1, s.2.2]
abbrev esK : List IntKind := [.i64, .u32, .i64] ++ [.i64, .i64]
abbrev esE (s : ESp) : Value := Go.Own.encI esK (esI s)
abbrev esCs (s : ESp) : List CT := [intC s.1.va, adrF s.1.ds, intC s.1.pr, intC s.2.1, intC s.2.2]
abbrev esC (s : ESp) : CT := .fr (aggT (esCs s))
abbrev esV (s : ESp) : List Value := [.int .i64 s.1.va, .int .u32 (s.1.ds.val : Int), .int .i64 s.1.pr, .int .i64 s.2.1, .int .i64 s.2.2]
theorem eqES:EqF Tryz.prog 282 123 [.i64, .u32, .i64] [.i64, .i64]:=⟨by kernel_rfl,by kernel_rfl,by kernel_rfl,by kernel_rfl,by kernel_rfl,by kernel_rfl,by kernel_rfl,by kernel_rfl⟩
theorem esI_inj(a b:ESp)(h:esI a=esI b):a=b:=by
  obtain ⟨⟨a1,a2,a3⟩,a4,a5⟩:=a;obtain ⟨⟨b1,b2,b3⟩,b4,b5⟩:=b;simp only [esI,List.cons.injEq,and_true,Int.ofNat_inj,Fin.val_inj] at h;obtain ⟨h1,h2,h3,h4,h5⟩:=h;rw [h1,h2,h3,h4,h5]
theorem keyES:KeyT Tryz.prog 282 esE:=eqES.flat.key esI (fun _=>rfl) esI_inj
theorem gES:Tryz.prog.eqGuardType Tryz.prog.depth 282=false:=by kernel_rfl
theorem lES:LdN Tryz.prog 282 5:=LdN.of _ Tryz.underlying282 rfl (by kernel_rfl)
theorem szES:(Tryz.prog.info? 282).map (·.size)=some 5:=by kernel_rfl
theorem zvES:(Tryz.prog.info? 282).map (·.zero)=some (some (.agg #[.int .i64 0, .int .u32 0, .int .i64 0, .int .i64 0, .int .i64 0])):=by kernel_rfl
theorem bES:bInfo Tryz.prog 282=some (.agg #[.int .i64 0, .int .u32 0, .int .i64 0, .int .i64 0, .int .i64 0],[(0,some 3),(3,some 1),(4,some 1)]):=by kernel_rfl
theorem uMSeen:Tryz.prog.underlying 280=some (.map 282 35):=Tryz.underlying280
theorem goPlace:InGo Tryz.prog 233:=InGo.of Tryz.func233 rfl (by decide)
set_option maxHeartbeats 4000000 in
theorem Place_ok(r:Rs):Ok Tryz.prog 233 [rsC r] (.fr (tupT [esC (plS r),boolC (plB r)])):=by
  have hT:=TraceOf_ok r;have hU:=Usable_ok r;have e0:plB r=(r.an&&usR r):=rfl;generalize usR r=ub at hU e0
  refine Ok.enter Tryz.func233 J _ Tryz.ntmps233 J ?_
  intro S w;refine Qy (Qx fun K hK=> ?_);refine Xu 0 J J J J J J J (Qf 1 J J zvES J J J (Qv J J J (Qj (hK _ _ (Qz (Qy ?_))))));clear hK K;refine XX mixed 13 (.p 2 (.p 4 (.p 7 (.f 0 (.f 3 (.f 5 (.fork 1 (.p 6 (.m 8 (.p 9 (.m 10 (.m 11 (.p 12 (.a 13 (.p 14 .done)))))))) 8 (.m 1 (.p 6 (.p 9 (.m 10 (.m 11 (.p 12 (.a 13 (.p 14 .done))))))))))))))) (by kernel_rfl) (fun K hK=> ?_);refine QJ J J J fS6 J (QJ J J J fS7 J (QJ J J J fS8 J (Qc (n:=17) J J J J J lRes J (QQ J J J J J lInt J (QQ J J J J J lInt J (Ops.fork ?_ ?_))))))
  · refine QV goTraceOf hT J J J J (Qo J bES J (.agg J J J J (.one J J J J (.one J J J J .nil))) J (QQ J J J J J lBool1 J (Qq J J J (Xd 13 (b:=r.an) J (fun h=> ?_) (fun h=> ?_)))))
    · refine Qc (n:=17) J J J J J lRes J (QV goUsable hU J J J J (Q5 J J J J (Qa 5 J J J J J szES J J (Qv J J J (Qj (hK _ _ (Qz (Q4 ?_))))))));clear hK K;refine Q1 [_,_] rfl (Qg (n:=5) J J lES J (QX J QZ)) (by rw [e0,h,Bool.true_and];rfl) J
    · refine Qw J J J (Qw J J J (Q7 J J J J (Qa 5 J J J J J szES J J (Qv J J J (Qj (hK _ _ (Qz (Q4 ?_))))))));clear hK K;refine Q1 [_,_] rfl (Qg (n:=5) J J lES J (QX J QZ)) (by rw [e0,h,Bool.false_and];rfl) J
  · refine QQ J J J J J lBool1 J (QV goTraceOf hT J J J J (Qo J bES J (.agg J J J J (.one J J J J (.one J J J J .nil))) J (Qq J J J (Xd 13 (b:=r.an) J (fun h=> ?_) (fun h=> ?_)))))
    · refine Qc (n:=17) J J J J J lRes J (QV goUsable hU J J J J (Q5 J J J J (Qa 5 J J J J J szES J J (Qv J J J (Qj (hK _ _ (Qz (Q4 ?_))))))));clear hK K;refine Q1 [_,_] rfl (Qg (n:=5) J J lES J (QX J QZ)) (by rw [e0,h,Bool.true_and];rfl) J
    · refine Qw J J J (Qw J J J (Q7 J J J J (Qa 5 J J J J J szES J J (Qv J J J (Qj (hK _ _ (Qz (Q4 ?_))))))));clear hK K;refine Q1 [_,_] rfl (Qg (n:=5) J J lES J (QX J QZ)) (by rw [e0,h,Bool.false_and];rfl) J
theorem goContradict:InGo Tryz.prog 168:=InGo.of Tryz.func168 rfl (by decide)
set_option maxHeartbeats 4000000 in
theorem Contradict_ok(a b:Rs):Ok Tryz.prog 168 [rsC a,rsC b] (boolC (conB a b)):=by
  have hA:=Place_ok a;have hB:=Place_ok b;have e0:conB a b=((plB a&&plB b)&&(decide (plS a=plS b)&&decide (a.fr≠b.fr))):=rfl;have e1:decide (esI (plS a)=esI (plS b))=decide (plS a=plS b):=decide_eq_decide.2 ⟨esI_inj _ _,fun h=>by rw [h]⟩;generalize plS a=sa at hA e0 e1;generalize plS b=sb at hB e0 e1;generalize plB a=pa at hA e0;generalize plB b=pb at hB e0
  refine Ok.enter Tryz.func168 J _ Tryz.ntmps168 J ?_
  intro S w;refine Qy (Qx fun K hK=> ?_);refine Xu 0 J J J J J J J (Xu 1 J J J J J J J (Qv J J J (Qj (hK _ _ (Qz (Qy ?_))))));clear hK K;refine Qx (fun K hK=> ?_);refine Qc (n:=17) J J J J J lRes J (QV goPlace hA J J J J (Qq J J J (QK J J J J (QK J J J J (Qf 2 J J zvES J J J (Qa 5 J J J J J szES J J (Qv J J J (Qj (hK _ _ (Qz (Qy ?_)))))))))));clear hK K;refine Qx (fun K hK=> ?_);refine Qc (n:=17) J J J J J lRes J (QV goPlace hB J J J J (Qq J J J (QK J J J J (QK J J J J (Qf 3 J J zvES J J J (Qa 5 J J J J J szES J J (Qv J J J (Qj (hK _ _ (Qz (Qy ?_)))))))))));clear hK K;refine Qx (fun K hK=> ?_);refine Qq J J J (Qq J J J (Xd 20 (b:=pa) J (fun h=> ?_) (fun h=> ?_)))
  · refine Qq J J J (Q5 J J J J (Qq J J J (Xd 23 (b:=pb) J (fun h2=> ?_) (fun h2=> ?_))))
    · skip;refine Qc (n:=5) J J J J J lES J (Qc (n:=5) J J J J J lES J (Ops.eqK (ks:=esK) (esI sa) (esI sb) J J J J J eqES.flat gES J ?_));rw [e1];refine Q5 J J J J (Qq J J J (Qi 28 (p:=sa=sb) J (fun h3=> ?_) (fun h3=> ?_)))
      · refine QJ J J J fS11 J (Z6 J J fN0 J (QQ J J J J J lAddr J (QJ J J J fS11 J (Z6 J J fN0 J (QQ J J J J J lAddr J (Qk ineq J J J J (Q5 J J J J (Qv J J J (Qj (hK _ _ (Qz (Q4 ?_))))))))))));clear hK K;refine Q1 [_] rfl (QX J QZ) (by rw [e0,h,h2,decide_eq_true h3];simp only [Bool.true_and];rw [show (decide (a.fr≠b.fr))=decide (¬((a.fr.val:Int)=b.fr.val)) from decide_eq_decide.2 ⟨fun h h' =>h (Fin.ext (by omega)),fun h h' =>h (by rw [h'])⟩];rfl) J
      · refine Qw J J J (Qw J J J (Qw J J J (Qw J J J (Qw J J J (Qw J J J (Qw J J J (Q7 J J J J (Qv J J J (Qj (hK _ _ (Qz (Q4 ?_))))))))))));clear hK K;refine Q1 [_] rfl (QX J QZ) (by rw [e0,h,h2,decide_eq_false h3];rfl) J
    · refine Qw J J J (Qw J J J (Qw J J J (Q7 J J J J (Qq J J J (Qw J J J (Qw J J J (Qw J J J (Qw J J J (Qw J J J (Qw J J J (Qw J J J (Q7 J J J J (Qv J J J (Qj (hK _ _ (Qz (Q4 ?_)))))))))))))))));clear hK K;refine Q1 [_] rfl (QX J QZ) (by rw [e0,h,h2];rfl) J
  · refine Qw J J J (Q7 J J J J (Qq J J J (Qw J J J (Qw J J J (Qw J J J (Q7 J J J J (Qq J J J (Qw J J J (Qw J J J (Qw J J J (Qw J J J (Qw J J J (Qw J J J (Qw J J J (Q7 J J J J (Qv J J J (Qj (hK _ _ (Qz (Q4 ?_))))))))))))))))))));clear hK K;refine Q1 [_] rfl (QX J QZ) (by rw [e0,h];rfl) J
attribute [local irreducible] OkM
theorem knOk_ins{l:List Rs}{m:KnM}(h:knOk l m)(s:Stm):knOk l (ins m s (pathF (ofF l s.1) s.2)):=fun x p hx=>by
  rw [look1_ins] at hx
  split at hx
  · rename_i e;subst e;injection hx with hx;exact hx.symm
  · exact h x p hx
theorem pathF_len(l:List Rs)(fl:Int):(pathF l fl).length≤256:=pathG_len _ _ _ _
abbrev Me := Rs × List Wr
def me0 : Me := (rs0, [])
abbrev meCs (x : Me) : List CT := rsCs x.1 ++ [wrsC x.2]
theorem me_len(x:Me):(meCs x).length=18:=rfl
abbrev mesC (l : List Me) : CT := .fr (sliceT 18 (l.map meCs))
def mes (l : List Me) : List CT := (l.map meCs).flatten
theorem mes_frozen(e:Nat)(l:List Me):(Ent.row e 18 (mes l)).frozen (sliceT 18 (l.map meCs)):=
  ⟨_,rfl,fun e he=>by obtain ⟨m,_,rfl⟩:=List.mem_map.mp he;rfl,by decide,rfl⟩
theorem mes_at{l:List Me}{j:Int}(h0:0≤j)(h:j<(l.length:Int)):(l.map meCs)[j.toNat]? =some (meCs (l.getD j.toNat me0)):=by
  have:j.toNat<l.length:=by omega
  simp [List.getElem?_map,List.getElem?_eq_getElem this,List.getD_eq_getElem?_getD]
theorem mes_len(l:List Me):(mes l).length=l.length*18:=el_len me_len l
theorem mes_snoc(l:List Me)(r:Me):mes (l++ [r])=mes l++meCs r:=by simp [mes]
abbrev zMe : Value := .agg #[.int .i64 0, .int .i64 0, .int .i64 0, .int .i64 0, .int .u32 0, .int .i64 0, .int .i64 0, .int .i64 0, .bool false, .bool false, .int .i64 0, .int .u32 0, .int .i64 0, .int .i64 0, .int .i64 0, .int .i64 0, .int .i64 0, .slice none 0 0]
theorem sMes:SlcT Tryz.prog 104 111 18 152 zMe:=SlcT.of Tryz.underlying104 (by kernel_rfl) rfl (by decide)
theorem lMe:LdN Tryz.prog 111 18:=LdN.of _ Tryz.underlying111 rfl (by kernel_rfl)
theorem szMe:(Tryz.prog.info? 111).map (·.size)=some 18:=by kernel_rfl
theorem zvMe:(Tryz.prog.info? 111).map (·.zero)=some (some zMe):=by kernel_rfl
theorem bMe:bInfo Tryz.prog 111=some (zMe,[(0,some 17),(17,some 1)]):=by kernel_rfl
theorem fMe1:fldInfo Tryz.prog 111 1=some (17,some 1):=by kernel_rfl
theorem eqDst:EqF Tryz.prog 159 123 [.i64, .u32, .i64] [.i64]:=⟨by kernel_rfl,by kernel_rfl,by kernel_rfl,by kernel_rfl,by kernel_rfl,by kernel_rfl,by kernel_rfl,by kernel_rfl⟩
theorem keyDst:KeyT Tryz.prog 159 stmE:=eqDst.flat.key stmI (fun _=>rfl) stmI_inj
theorem lDst:LdN Tryz.prog 159 4:=LdN.of _ Tryz.underlying159 rfl (by kernel_rfl)
theorem szDst:(Tryz.prog.info? 159).map (·.size)=some 4:=by kernel_rfl
theorem zvDst:(Tryz.prog.info? 159).map (·.zero)=some (some (.agg #[.int .i64 0, .int .u32 0, .int .i64 0, .int .i64 0])):=by kernel_rfl
theorem bDst:bInfo Tryz.prog 159=some (.agg #[.int .i64 0, .int .u32 0, .int .i64 0, .int .i64 0],[(0,some 3),(3,some 1)]):=by kernel_rfl
theorem fDst0:fldInfo Tryz.prog 159 0=some (0,some 3):=by kernel_rfl
theorem uMDst:Tryz.prog.underlying 156=some (.map 159 93):=Tryz.underlying156
def paF (l : List Rs) (r : Rs) : List (_root_.Fin 4294967296) := pathF (ofF l (trOf r)) r.fl
def mesB (l : List Rs) (r : Rs) : Bool := r.an && (usR r && (decide (r.tt ≤ ((paF l r).length : Int)) && (decide ((paF l r).getD (r.tt.toNat - 1) 0 = r.fr) && (wsO ((paF l r).take r.tt.toNat)).2)))
def meF (l : List Rs) (r : Rs) : Me := (r, (wsO ((paF l r).take r.tt.toNat)).1)
def msF (l : List Rs) : List Me := ((sd cmpR (l.filter okR)).filter (mesB l)).map (meF l)
theorem gomeasures:InGo Tryz.prog 45:=InGo.of Tryz.func45 rfl (by decide)
set_option maxHeartbeats 16000000 in
theorem measures_ok(l:List Rs)(hl:l.length≤10000):Ok Tryz.prog 45 [rssC l] (mesC (msF l)):=by
  have hT:=Traces_ok l hl
  have hOf:=fun t=>Of_ok l t hl
  have hO:=Order_ok l hl
  have hU:=fun r=>Usable_ok r
  have hTl:(trsF l).length≤10000:=by
    have h1:=sd_len cmpT ((l.filter okR).map trOf);have h2:=List.length_filter_le okR l;rw [List.length_map] at h1;unfold trsF;omega
  have hol:(sd cmpR (l.filter okR)).length≤10000:=by
    have:=sd_len cmpR (l.filter okR);have:=List.length_filter_le okR l;omega
  have hP:=fun r=>Path_ok (ofF l (trOf r)) r.fl (by
    have h1:=sd_len cmpR (l.filter okR);have h2:=List.length_filter_le okR l;have h3:=List.length_filter_le (fun x=>decide (trOf x=trOf r)) (sd cmpR (l.filter okR))
    unfold ofF;omega)
  have hpl:∀r,(paF l r).length≤256:=fun r=>pathF_len _ _
  have hLo:=owF_look l;have hm:msF l=((sd cmpR (l.filter okR)).filter (mesB l)).map (meF l):=rfl;have ho:owF l=(trsF l).foldl (fun m t=>ins m t (ofF l t)) []:=rfl
  have hB:∀r,mesB l r=(r.an&&(usR r&&(decide (r.tt≤((paF l r).length:Int))&&(decide ((paF l r).getD (r.tt.toNat - 1) 0=r.fr)&&(wsO ((paF l r).take r.tt.toNat)).2)))):=fun _=>rfl
  have hF:∀r,meF l r=(r,(wsO ((paF l r).take r.tt.toNat)).1):=fun _=>rfl
  generalize msF l=out at hm ⊢;generalize sd cmpR (l.filter okR)=o at hO hol hm;generalize owF l=om at hLo ho;generalize trsF l=ts at hT hTl ho;generalize mesB l=mb at hB hm;generalize meF l=mf at hF hm
  refine Ok.enter Tryz.func45 J _ Tryz.ntmps45 J ?_
  intro S w0;refine Qy (Qx fun K hK=> ?_);refine Qv J J J (Qj (hK _ _ (Qz (Qy ?_))));clear hK K;refine Qx (fun K hK=> ?_);refine Ops.mkMap 6 J J J J J (fun v1 hv1=> ?_);refine Qv J J J (Qj (hK _ _ (Qz (Qy (Qy ?_)))));clear hK K;refine Qx (fun K hK=> ?_);refine Qq J J J (Zm 3 goTraces hT J J J J J J (ZY 3 _ J (tks_frozen _ _) noBor_sub (Qh J J sTks.und (List.length_map ..) J (Qq J J J (Qj (hK _ _ (Qz (Q3 ?_))))))));clear hK K
  refine Qs (α:=Nat) (fun i=>i≤ts.length)
    (fun i=>[(0, .ct (rssC l)),(3, .ct (.ex v1)),(17, .ct (tksC ts)),(18, .ct (intC ts.length)),(19, .ct (intC i))])
    (fun i=>[(6, .mpx v1 (owM ((ts.take i).foldl (fun m t=>ins m t (ofF l t)) [])))])
    (fun i=>ts.length - i) 0 (Nat.zero_le _) (by exact Qu J ⟨rfl,rfl,rfl,rfl,rfl,trivial⟩) ?_
  intro i hi
  try dsimp only at hi ⊢
  refine Qy (Qx fun K hK=> ?_);refine Qk ilss J J J J (Qj (hK _ _ (Qz (Qy ?_))));clear hK K;refine Q2 J (fun h=> ?_) (fun h=> ?_)
  · have e2:(i:Int).toNat=i:=Int.toNat_natCast i;have hs:=foldl_take (fun m t=>ins m t (ofF l t)) ([]:OwM) (z:=tk0) (l:=ts) (i:=i) (by omega);generalize (ts.take i).foldl (fun m t=>ins m t (ofF l t)) ([]:OwM)=m at hs ⊢;refine QW (Qz (Qy (Q3 (Qy (Qx fun K hK=> ?_)))))
    refine Xx J J J sTks (by omega) (tks_at (by omega) (by omega)) J ?_
    rw [e2];generalize ts.getD i tk0=t at hs ⊢;refine Xc (n:=3) J J J lTrace J J (Qf 2 J J zvTrace J J J (Qa 3 J J J J J szTrace J J (Qj (hK _ _ (Qz ?_)))));clear hK K;refine XX mixed 5 (.p 0 (.p 2 (.f 1 (.f 3 (.m 4 (.a 5 .done)))))) (by kernel_rfl) (fun K hK=> ?_);refine Qq J J J (Qq J J J (Qc (n:=3) J J J J J lTrace J (Qc (n:=3) J J J J J lTrace J (Zm 3 goOf (hOf t) J J J J J J (ZY 3 _ J (rss_frozen _ _) noBor_sub (XQ (i:=6) (enc:=tkE) (cv:=rssC) t (ofF l t) J J J (KeyIs.agg (us:=tkVs t) J) J uMOwn keyTk (Qj (hK _ _ (Qz ?_)))))))));clear hK K;refine Qx (fun K hK=> ?_)
    refine Qk (iadd (by omega) (by omega)) J J J J ?_
    refine Qq J J J (Qj (hK _ _ (Q6 ?_)));clear hK K;refine Xq 2 (Q9 (i+1) (by omega) (by omega) (by rw [hs];exact Qu J ⟨rfl,rfl,rfl,rfl,by simp only [Int.natCast_add];rfl,trivial⟩))
  have hi' :i=ts.length:=by omega
  rw [hi',List.take_length,←ho];clear hT hOf ho hTl;refine Qm (Qz (Qy (Qx fun K hK=> ?_)));refine Ops.mkMap 8 J J J J J (fun v2 hv2=> ?_);refine Qv J J J (Qj (hK _ _ (Qz (Qy ?_))));clear hK K;refine Qx (fun K hK=> ?_);refine Qv J J J (Qj (hK _ _ (Qz (Qy (Qy ?_)))));clear hK K;refine Qx (fun K hK=> ?_);refine Qq J J J (Zm 3 goOrder hO J J J J J J (ZY 3 _ J (rss_frozen _ _) noBor_sub (Qh J J sRes.und (List.length_map ..) J (Qq J J J (Qj (hK _ _ (Qz (Q3 ?_))))))));clear hK K
  refine YV 7 4 111 18 J J J ?_
  refine Qs (α:=Nat × KnM) (fun q=>q.1≤o.length∧knOk l q.2)
    (fun q=>[(3, .ct (.ex v1)),(6, .ct (.ex v2)),(7, .own 4),(31, .ct (rssC o)),(32, .ct (intC o.length)),(33, .ct (intC q.1))])
    (fun q=>[(4, .row 111 18 (mes (((o.take q.1).filter mb).map mf))),(8, .mpx v2 (knM q.2)),(6, .mpx v1 (owM om))])
    (fun q=>o.length - q.1) (0,[]) ⟨Nat.zero_le _,fun _ _ h=>by cases h⟩ (by exact Qu J ⟨rfl,rfl,rfl,rfl,rfl,rfl,trivial⟩) ?_
  clear h hi hi' i;intro ⟨i,m⟩ ⟨hi,hm'⟩
  try dsimp only at hi hm' ⊢
  refine Qy (Qx fun K hK=> ?_);refine Qk ilss J J J J (Qj (hK _ _ (Qz (Qy ?_))));clear hK K;refine Q2 J (fun h=> ?_) (fun h=> ?_);rotate_left
  · have hi' :i=o.length:=by omega
    rw [hi',List.take_length,←hm];refine Qm (Qz (Qy (Qx fun K hK=> ?_)));refine Qq J J J (Qv J J J (Qj (hK _ _ (Qz (Q4 ?_)))));clear hK K;refine Y4 4 _ J (mes_frozen _ _) noBor_sub (Q1 [_] rfl (QX J QZ) J J)
  have e2:(i:Int).toNat=i:=Int.toNat_natCast i;have hs:=filter_take mb (z:=rs0) (i:=i) (l:=o) (by omega);have hfl:=filter_len mb o i;refine QW (Qz (Qy (Q3 (Qy (Qx fun K hK=> ?_)))))
  refine Xx J J J sRes (by omega) (rss_at (by omega) (by omega)) J ?_
  refine Xc (n:=17) J J J lRes J J (Qf 0 J J zvRes J J J (Qa 17 J J J J J szRes J J (Qj (hK _ _ (Qz (Qy (Qy ?_)))))));clear hK K;refine Qx (fun K hK=> ?_);refine QJ J J J fS8 J (QQ J J J J J lBool1 J (Xz J J J (Qq J J J ?_)));rw [e2];generalize o.getD i rs0=r at hs;generalize (o.take i).filter mb=q at hs hfl ⊢;rw [hB r] at hs
  have hkn:=fun m (h:knOk l m)=>knOk_ins h (trOf r,r.fl)
  have hal' :=fun p=>hm' (trOf r,r.fl) p
  have hPr:=hP r;have hpr:=hpl r;have hFr:=hF r;have hLr:=hLo (trOf r);have hUr:=hU r;have hTt:usR r=true→1≤r.tt∧r.tt≤255:=usR_tt;clear hP hpl hF hB hLo hU hm;dsimp only at hkn hal';unfold paF at hs hpr hFr;generalize pathF (ofF l (trOf r)) r.fl=p at hs hpr hFr hal' hkn hPr;rw [←hLr] at hPr;generalize usR r=ub at hUr hTt hs;refine Xd 40 J (fun g1=> ?_) (fun g1=> ?_)
  · rw [if_neg (by simp at g1;simp [g1])] at hs;refine Qw J J J (Qw J J J (Qw J J J (Q5 J J J J (Qj (hK _ _ (Qz (XZ J (Qm (Qz ?_)))))))));clear hK K;refine Qx (fun K hK=> ?_)
    refine Qk (iadd (by omega) (by omega)) J J J J ?_
    refine Qq J J J (Qj (hK _ _ (Q6 ?_)));clear hK K;refine Xq 0 (Q9 (i+1,m) (by dsimp only;omega) ⟨by dsimp only;omega,hm'⟩ (by dsimp only;rw [hs];exact Qu J ⟨rfl,rfl,rfl,rfl,rfl,by simp only [Int.natCast_add];rfl,trivial⟩))
  have g1:r.an=true:=by simpa using g1
  refine Qc (n:=17) J J J J J lRes J (QV goUsable hUr J J J J (Xz J J J (Q7 J J J J (Qj (hK _ _ (Qz ?_))))));clear hK K;refine X6 J (fun g2=> ?_) (fun g2=> ?_)
  · rw [if_neg (by simp at g2;simp [g2])] at hs;refine Qm (Qz (Qx fun K hK=> ?_))
    refine Qk (iadd (by omega) (by omega)) J J J J ?_
    refine Qq J J J (Qj (hK _ _ (Q6 ?_)));clear hK K;refine Xq 0 (Q9 (i+1,m) (by dsimp only;omega) ⟨by dsimp only;omega,hm'⟩ (by dsimp only;rw [hs];exact Qu J ⟨rfl,rfl,rfl,rfl,rfl,by simp only [Int.natCast_add];rfl,trivial⟩))
  have g2:ub=true:=by simpa using g2
  obtain ⟨t1,t2⟩:=hTt g2;rw [g1,g2,Bool.true_and,Bool.true_and] at hs;clear hTt hUr;refine QW (Qz (Qy ?_))
  refine YJ (α:=Unit) (fun _=>True) (fun _=>[(3, .ct (.ex v1)),(6, .ct (.ex v2)),(7, .own 4),(31, .ct (rssC o)),(32, .ct (intC o.length)),(33, .ct (intC i)),(9, .own 0),(10, .own 1)])
    (fun _=>[(1, .box 159 (stmCs (trOf r,r.fl))),(0, .box 47 (rsCs r)),(4, .row 111 18 (mes (q.map mf))),(8, .mpx v2 (knM m)),(6, .mpx v1 (owM om))]) (fun _ _=> ?_) (fun KN hM=> ?_)
  rotate_left
  · refine XX mixed 6 (.p 2 (.f 0 (.f 3 (.fork 1 (.p 4 (.m 5 (.a 6 .done))) 5 (.m 1 (.p 4 (.a 6 .done))))))) (by kernel_rfl) (fun K hK=> ?_);refine QJ J J J fS6 J (Qc (n:=17) J J J J J lRes J (QQ J J J J J lInt J (Ops.fork ?_ ?_)))
    · refine QV goTraceOf (TraceOf_ok r) J J J J (Qo J bDst J (.agg J J J J (.one J J J J .nil)) J (Qf 1 J J zvDst J J J (Qa 4 J J J J J szDst J J (Qj (hK _ _ ?_)))));clear hK K;exact Xk hM () trivial (Qu J ⟨rfl,rfl,rfl,rfl,rfl,rfl,rfl,rfl,trivial⟩)
    · refine Qf 1 J J zvDst J J J (QV goTraceOf (TraceOf_ok r) J J J J (Qo J bDst J (.agg J J J J (.one J J J J .nil)) J (Qa 4 J J J J J szDst J J (Qj (hK _ _ ?_)))));clear hK K;exact Xk hM () trivial (Qu J ⟨rfl,rfl,rfl,rfl,rfl,rfl,rfl,rfl,trivial⟩)
  refine Qy (Qx fun K hK=> ?_);refine Qq J J J (Qc (n:=4) J J J J J lDst J (Ops.lookM2 (i:=8) (cv:=adsC) (enc:=stmE) [] (trOf r,r.fl) J J J J (KeyIs.agg (us:=stmV (trOf r,r.fl)) J) uMDst z0Ads (fun S w=>YQ S w _ J) keyDst J ?_));generalize look1 m (trOf r,r.fl)=lk at hal';refine Qq J J J (QK J J J J (QK J J J J (Qv J J J (Qv J J J (Qj (hK _ _ ?_))))));clear hK K;refine Qz (Qy ?_)
  refine YJ (α:=KnM) (fun m=>knOk l m) (fun _=>[(3, .ct (.ex v1)),(6, .ct (.ex v2)),(7, .own 4),(31, .ct (rssC o)),(32, .ct (intC o.length)),(33, .ct (intC i)),(9, .own 0),(10, .own 1),(11, .ct (adsC p))])
    (fun m=>[(1, .box 159 (stmCs (trOf r,r.fl))),(0, .box 47 (rsCs r)),(4, .row 111 18 (mes (q.map mf))),(8, .mpx v2 (knM m)),(6, .mpx v1 (owM om))]) (fun m2 hm2=> ?_) (fun KN hM=> ?_)
  rotate_left
  · refine Qy (Qx fun K hK=> ?_);refine Qq J J J (Xz J J J (Qj (hK _ _ (Qz ?_))));clear hK K;refine X6 J (fun h2=> ?_) (fun h2=> ?_)
    · refine Qy (XX mixed 8 (.p 0 (.p 1 (.p 4 (.f 2 (.f 3 (.f 5 (.m 6 (.p 7 .done)))))))) (by kernel_rfl) (fun K hK=> ?_));refine Qq J J J (QJ J J J fDst0 J (QJ J J J fS6 J (Yv (n:=3) J J J J (Nat.le_of_ble_eq_true J) lTrace J (Ops.lookM (i:=6) (enc:=tkE) (cv:=rssC) [] (trOf r) J J J J (KeyIs.agg (us:=tkVs (trOf r)) J) uMOwn z0Rss (fun S w=>YQ S w _ J) keyTk J ?_))));refine QQ J J J J J lInt J (Zm 3 goPath hPr J J J J J J (ZY 3 _ J (adrs_frozen _ _) noBor_sub (Qv J J J (Qj (hK _ _ (Qz ?_))))));clear hK K;refine Qx (fun K hK=> ?_);refine Qq J J J (Qc (n:=4) J J J J J lDst J (Qq J J J (XQ (i:=8) (enc:=stmE) (cv:=adsC) (trOf r,r.fl) p J J J (KeyIs.agg (us:=stmV (trOf r,r.fl)) J) J uMDst keyDst (Qj (hK _ _ ?_)))));clear hK K;exact Xk hM _ (hkn m hm') (Qu J ⟨rfl,rfl,rfl,rfl,rfl,rfl,rfl,rfl,rfl,trivial⟩)
    · cases lk with
      |none=>cases h2
      |some p' =>
        rw [←hal' p' J] at hM
        refine QW ?_
        exact Xk hM m hm' (Qu J ⟨rfl,rfl,rfl,rfl,rfl,rfl,rfl,rfl,rfl,trivial⟩)
  clear hal' hkn hPr hm';refine Qy (Qy ?_);refine XX mixed 17 (.p 0 (.p 1 (.p 2 (.f 3 (.p 4 (.p 5 (.p 6 (.p 7 (.p 12 (.p 13 (.f 8 (.p 9 (.p 10 (.f 11 (.f 14 (.p 15 (.p 16 .done))))))))))))))))) (by kernel_rfl) (fun K hK=> ?_);refine Qq J J J (Qh J J sAdrs.und (List.length_map ..) J (QJ J J J fS7 J (QQ J J J J J lInt J (Qk ilss J J J J (Qq J J J (Qi 73 J (fun g3=> ?_) (fun g3=> ?_)))))))
  · rw [if_neg (by rw [decide_eq_false (show ¬r.tt≤(p.length:Int) by omega)];simp)] at hs;refine Qw J J J (Qw J J J (Qw J J J (Qw J J J (Qw J J J (Qw J J J (Qw J J J (Qw J J J (Qw J J J (Qw J J J (Q5 J J J J (Qj (hK _ _ (Qz (XZ J (Qm (Qz ?_))))))))))))))));clear hK K;refine Qx (fun K hK=> ?_)
    refine Qk (iadd (by omega) (by omega)) J J J J ?_
    refine Qq J J J (Qj (hK _ _ (Q6 ?_)));clear hK K;refine Xq 1 (Xq 0 (Q9 (i+1,m2) (by dsimp only;omega) ⟨by dsimp only;omega,hm2⟩ (by dsimp only;rw [hs];exact Qu J ⟨rfl,rfl,rfl,rfl,rfl,by simp only [Int.natCast_add];rfl,trivial⟩)))
  rw [decide_eq_true (show r.tt≤(p.length:Int) by omega),Bool.true_and] at hs
  have e6:(r.tt - 1).toNat=r.tt.toNat - 1:=by omega
  refine Qq J J J (QJ J J J fS7 J (QJ J J J fS11 J (Z6 J J fN0 J (QQ J J J J J lInt J (Qk (isub (by omega) (by omega)) J J J J ?_)))))
  refine Xx J J J sAdrs (by omega) (adrs_at (by omega) (by omega)) J ?_
  rw [e6];skip;refine X1 J J J lAddr J (QQ J J J J J lAddr J (Qk ineq J J J J (Q7 J J J J (Qj (hK _ _ (Qz ?_))))));clear hK K;refine Q2 J (fun g4=> ?_) (fun g4=> ?_)
  · have g4:¬p.getD (r.tt.toNat - 1) 0=r.fr:=fun h=>g4 (by rw [h])
    rw [if_neg (by rw [decide_eq_false g4];simp)] at hs;refine Qm (Qz (Qx fun K hK=> ?_))
    refine Qk (iadd (by omega) (by omega)) J J J J ?_
    refine Qq J J J (Qj (hK _ _ (Q6 ?_)));clear hK K;refine Xq 1 (Xq 0 (Q9 (i+1,m2) (by dsimp only;omega) ⟨by dsimp only;omega,hm2⟩ (by dsimp only;rw [hs];exact Qu J ⟨rfl,rfl,rfl,rfl,rfl,by simp only [Int.natCast_add];rfl,trivial⟩)))
  have g4:p.getD (r.tt.toNat - 1) 0=r.fr:=_root_.Fin.ext (by have:=Decidable.not_not.1 g4;omega);rw [decide_eq_true g4,Bool.true_and] at hs;refine QW (Qz (Qy (Qx fun K hK=> ?_)));refine Qq J J J (QJ J J J fS7 J (QQ J J J J J lInt J (Ops.cutHi J J J sAdrs (by omega) (by rw [List.length_map];omega) J ?_)));rw [←List.map_take];have hw:=wires_ok (p.take r.tt.toNat) (by rw [List.length_take];omega);generalize wsO (p.take r.tt.toNat)=wo at hs hw hFr;obtain ⟨ws,wb⟩:=wo;dsimp only at hs hw hFr;refine QV gowires hw J J J J (Qq J J J (QK J J J J (QK J J J J (Qv J J J (Qv J J J (Qj (hK _ _ (Qz (Qy ?_)))))))));clear hK K;refine Qx (fun K hK=> ?_);refine Qq J J J (Qj (hK _ _ (Qz ?_)));clear hK K;refine X6 J (fun g5=> ?_) (fun g5=> ?_)
  · rw [if_pos g5] at hs;refine Qx (fun K hK=> ?_);refine Qq J J J (Qc (n:=17) J J J J J lRes J (Qq J J J (Qo J bMe J (.agg J J J J (.one J J J J .nil)) J (Zo (n:=18) J J sMes J J (by decide) J ?_))))
    refine Qt (q.map mf).length (mes (q.map mf++ [(r,ws)])) J J J J sMes (mes_len _) J (by rw [List.length_map];omega) (by rw [List.length_map];omega) (mes_snoc _ _) J ?_
    refine Qv J J J (Qj (hK _ _ (Qz ?_)));clear hK K;refine Qx (fun K hK=> ?_)
    refine Qk (iadd (by omega) (by omega)) J J J J ?_
    refine Qq J J J (Qj (hK _ _ (Q6 ?_)));clear hK K;refine Xq 1 (Xq 0 (Q9 (i+1,m2) (by dsimp only;omega) ⟨by dsimp only;omega,hm2⟩ (by dsimp only;rw [hs,List.map_append,List.map_singleton,hFr];exact Qu J ⟨rfl,rfl,rfl,rfl,rfl,by simp only [Int.natCast_add];rfl,trivial⟩)))
  · rw [if_neg (by rw [g5];decide)] at hs;refine QW (Qz (Qx fun K hK=> ?_))
    refine Qk (iadd (by omega) (by omega)) J J J J ?_
    refine Qq J J J (Qj (hK _ _ (Q6 ?_)));clear hK K;refine Xq 1 (Xq 0 (Q9 (i+1,m2) (by dsimp only;omega) ⟨by dsimp only;omega,hm2⟩ (by dsimp only;rw [hs];exact Qu J ⟨rfl,rfl,rfl,rfl,rfl,by simp only [Int.natCast_add];rfl,trivial⟩)))
set_option maxHeartbeats 2000000 in
theorem IndexFunc_res(xs:List Rs)(f:FuncId)(p:Rs→Bool)(hgo:InGo Tryz.prog f)(hf:∀x∈xs,Ok Tryz.prog f [rsC x] (boolC (p x)))(hl:xs.length<4611686018427387904):Ok Tryz.prog 100 [rssC xs,(.ex (.func (.func f) #[] #[]))] (intC (idxI p xs)):=by
  refine Ok.enter Tryz.func100 J _ Tryz.ntmps100 J ?_
  intro S w;refine Qy (Qx fun K hK=> ?_);refine Qv J J J (Qj (hK _ _ (Qz (Qy (Qy ?_)))));clear hK K;refine Qx (fun K hK=> ?_);refine Qq J J J (Qh J J sRes.und (List.length_map ..) J (Qq J J J (Qj (hK _ _ (Qz (Q3 ?_))))));clear hK K
  refine Qs (α:=Nat) (fun i=>i≤xs.length∧∀j,j<i→p (xs.getD j rs0)=false)
    (fun i=>[(0, .ct (rssC xs)),(1, .ct (.ex (.func (.func f) #[] #[]))),(7, .ct (intC xs.length)),(8, .ct (intC i))]) (fun _=>[]) (fun i=>xs.length - i) 0 ⟨Nat.zero_le _,fun j h=>absurd h (Nat.not_lt_zero j)⟩ (by exact Qu J ⟨rfl,rfl,rfl,rfl,trivial⟩) ?_
  intro i ⟨hi,hv⟩;dsimp only;refine Qy (Qx fun K hK=> ?_);refine Qk ilss J J J J (Qj (hK _ _ (Qz (Qy ?_))));clear hK K;refine Q2 J (fun h=> ?_) (fun h=> ?_)
  · have e2:(i:Int).toNat=i:=Int.toNat_natCast i;refine QW (Qz (Qy (Q3 (Qy (Qx fun K hK=> ?_)))));refine Qq J J J (Qv J J J (Qj (hK _ _ (Qz (Qy ?_)))));clear hK K;refine Qx (fun K hK=> ?_);refine Qq J J J (Qq J J J (Qq J J J (Xx J J J sRes (by omega) (rss_at (by omega) (by omega)) J ?_)))
    refine Xc (n:=17) J J J lRes J J ?_
    try rw [e2]
    skip
    refine Ops.callF hgo J (hf _ (getD_mem (by omega))) J J J J ?_
    refine Qj (hK _ _ (Qz ?_));clear hK K;refine X6 J (fun h2=> ?_) (fun h2=> ?_)
    · refine Qy (Qx fun K hK=> ?_);refine Qq J J J (Qv J J J (Qj (hK _ _ (Qz (Q4 (Qb (QY (QY (Qb (QY ?_))))))))));clear hK K;refine Q1 [_] rfl (QX J QZ) (by rw [idxI_hit (by omega) h2 hv];rfl) J
    · refine QW (Qz (Qx fun K hK=> ?_))
      refine Qk (iadd (by omega) (by omega)) J J J J ?_
      refine Qq J J J (Qj (hK _ _ (Q6 ?_)));clear hK K;refine Q9 (i+1) (by omega) ⟨by omega,?_⟩ (by exact Qu J ⟨rfl,rfl,rfl,by simp only [Int.natCast_add];rfl,trivial⟩);intro j hj;rcases Nat.lt_or_ge j i with h3|h3
      · exact hv j h3
      · have:j=i:=by omega
        rw [this];exact h2
  · have hi' :i=xs.length:=by omega
    refine Qm (Qz (Qy (Qx fun K hK=> ?_)));refine Qv J J J (Qj (hK _ _ (Qz (Q4 ?_))));clear hK K;refine Q1 [_] rfl (QX J QZ) (by rw [idxI_miss (fun j hj=>hv j (by omega))];rfl) J
theorem goIndexFunc_res:InGo Tryz.prog 100:=InGo.of Tryz.func100 (by kernel_rfl) (by kernel_rfl)
theorem ContainsFunc_res(xs:List Rs)(f:FuncId)(p:Rs→Bool)(hgo:InGo Tryz.prog f)(hf:∀x∈xs,Ok Tryz.prog f [rsC x] (boolC (p x)))(hl:xs.length<4611686018427387904):Ok Tryz.prog 56 [rssC xs,(.ex (.func (.func f) #[] #[]))] (boolC (xs.any p)):=by
  refine Ok.enter Tryz.func56 J _ Tryz.ntmps56 J ?_
  intro S w;refine Qy (Qx fun K hK=> ?_);refine Qv J J J (Qj (hK _ _ (Qz (Qy ?_))));clear hK K;refine Qx (fun K hK=> ?_);refine Qq J J J (Qq J J J (QV goIndexFunc_res (IndexFunc_res xs f p hgo hf hl) J J J J (Qk igeq J J J J (Qv J J J (Qj (hK _ _ (Qz (Q4 ?_))))))));clear hK K;refine Q1 [_] rfl (QX J QZ) (by rw [←idxI_any];rfl) J
theorem goContainsFunc_res:InGo Tryz.prog 56:=InGo.of Tryz.func56 (by kernel_rfl) (by kernel_rfl)
end Go.Proofs.YtojkdfilabmafaaGreat
namespace Go.Proofs.YtojkdfilabmafaaGreat
open Go.Own Go.Limbs
attribute [local irreducible] St Ops Go.Own.Fin Ok OkB OkN OkT OkL OkF
theorem goClash:InGo Tryz.prog 167:=InGo.of Tryz.func167 rfl (by decide)
theorem drop_getD{α:Type}{l:List α}{z:α}{i:Nat}(h:i<l.length):l.drop i=l.getD i z::l.drop (i+1):=by
  rw [List.drop_eq_getElem_cons h,List.getD_eq_getElem?_getD,List.getElem?_eq_getElem h];rfl
set_option maxHeartbeats 4000000 in
theorem Clash_ok(l:List Rs)(hl:l.length≤100000):Ok Tryz.prog 167 [rssC l] (intC (clashG [] l)):=by
  refine Ok.enter Tryz.func167 J _ Tryz.ntmps167 J ?_
  intro S w;refine Qy (Qx fun K hK=> ?_);refine Qv J J J (Qj (hK _ _ (Qz (Qy ?_))));clear hK K;refine Qx (fun K hK=> ?_);refine Ops.mkMap 8 J J J J J (fun v1 hv1=> ?_);refine Qv J J J (Qj (hK _ _ (Qz (Qy (Qy ?_)))));clear hK K;refine Qx (fun K hK=> ?_);refine Qq J J J (Qh J J sRes.und (List.length_map ..) J (Qq J J J (Qj (hK _ _ (Qz (Q3 ?_))))));clear hK K
  refine Qs (α:=Nat × SeenM) (fun q=>q.1≤l.length∧clashG [] l=q.1+clashG q.2 (l.drop q.1))
    (fun q=>[(3, .ct (.ex v1)),(0, .ct (rssC l)),(11, .ct (rssC l)),(12, .ct (intC l.length)),(13, .ct (intC q.1))]) (fun q=>[(8, .mpx v1 (kvs esE adrF q.2))]) (fun q=>l.length - q.1) (0,[]) ⟨Nat.zero_le _,(Nat.zero_add _).symm⟩ (by exact Qu J ⟨rfl,rfl,rfl,rfl,rfl,trivial⟩) ?_
  rintro ⟨i,m⟩ ⟨hi,hq⟩
  try dsimp only at hi hq ⊢
  refine Qy (Qx fun K hK=> ?_);refine Qk ilss J J J J (Qj (hK _ _ (Qz (Qy ?_))));clear hK K;refine Q2 J (fun h=> ?_) (fun h=> ?_)
  · have e2:(i:Int).toNat=i:=Int.toNat_natCast i;rw [drop_getD (z:=rs0) (show i<l.length by omega)] at hq;refine QW (Qz (Qy (Q3 (Qy (Qx fun K hK=> ?_)))));refine Qq J J J (Xx J J J sRes (by omega) (rss_at (by omega) (by omega)) J ?_);refine Xc (n:=17) J J J lRes J J (Qf 0 J J zvRes J J J (Qv J J J (Qa 17 J J J J J szRes J J (Qj (hK _ _ (Qz (Qy ?_)))))));clear hK K;refine Qx (fun K hK=> ?_)
    refine Qc (n:=17) J J J J J lRes J ?_
    rw [e2];generalize l.getD i rs0=c at hq ⊢;have hP:=Place_ok c;simp only [clashG] at hq;generalize plS c=sc at hP hq;generalize plB c=pc at hP hq;skip;refine QV goPlace hP J J J J (Qq J J J (QK J J J J (QK J J J J (Qf 3 J J zvES J J J (Qa 5 J J J J J szES J J (Qv J J J (Qj (hK _ _ (Qz (Qy (Qy ?_)))))))))));clear hK K;refine Qx (fun K hK=> ?_);refine Qq J J J (Xz J J J (Qj (hK _ _ (Qz ?_))));clear hK K;refine X6 J (fun h1=> ?_) (fun h1=> ?_)
    · have h1' :pc=false:=by simpa using h1
      rw [if_pos h1'] at hq;refine Qm (Qz (Qx fun K hK=> ?_))
      refine Qk (iadd (by omega) (by omega)) J J J J ?_
      refine Qq J J J (Qj (hK _ _ (Q6 ?_)));clear hK K;refine Xq 3 (Xq 0 (Q9 (i+1,m) (by dsimp only;omega) ⟨by dsimp only;omega,by dsimp only;omega⟩ (by exact Qu J ⟨rfl,rfl,rfl,rfl,by simp only [Int.natCast_add];rfl,trivial⟩)))
    · have h1' :pc=true:=by simpa using h1
      rw [if_neg (by rw [h1'];decide)] at hq;refine QW (Qz (Qy (Qy (Qx fun K hK=> ?_))));refine Qq J J J (Qc (n:=5) J J J J J lES J (Ops.lookM2 (i:=8) (cv:=adrF) (enc:=esE) 0 sc J J J J (KeyIs.agg (us:=esV sc) J) uMSeen z0Adr (fun _ _=>rfl) keyES J ?_));generalize (look1 m sc).isSome=b at hq ⊢;generalize (look1 m sc).getD 0=a at hq ⊢;refine Qq J J J (QK J J J J (QK J J J J (Qv J J J (Qv J J J (Qj (hK _ _ (Qz (Qy ?_))))))));clear hK K;refine Qx (fun K hK=> ?_);refine Qq J J J (Qq J J J (Xd 32 (b:=b) J (fun h2=> ?_) (fun h2=> ?_)))
      · refine Qq J J J (QJ J J J fS11 J (Z6 J J fN0 J (QQ J J J J J lAddr J (Qk ineq J J J J (Q5 J J J J (Qj (hK _ _ (Qz ?_))))))));clear hK K;refine Q2 J (fun h3=> ?_) (fun h3=> ?_)
        · rw [if_pos ⟨h2,fun h=>h3 (by rw [h])⟩] at hq;refine Qy (Qx fun K hK=> ?_);refine Qq J J J (Qv J J J (Qj (hK _ _ (Qz (Q4 (QY (Qb (QY (QY (Qb (QY ?_)))))))))));clear hK K;refine Q1 [_] rfl (QX J QZ) (by rw [hq];rfl) J
        · rw [if_neg (fun h=>h.2 (Fin.ext (by omega)))] at hq;refine QW (Qz (Qx fun K hK=> ?_));refine Qq J J J (Qc (n:=5) J J J J J lES J (QJ J J J fS11 J (Z6 J J fN0 J (QQ J J J J J lAddr J (XQ (i:=8) (enc:=esE) (cv:=adrF) sc c.fr J J J (KeyIs.agg (us:=esV sc) J) J uMSeen keyES (Qj (hK _ _ (Qz ?_))))))));clear hK K;refine Qx (fun K hK=> ?_)
          refine Qk (iadd (by omega) (by omega)) J J J J ?_
          refine Qq J J J (Qj (hK _ _ (Q6 ?_)));clear hK K;refine Xq 3 (Xq 0 (Q9 (i+1,ins m sc c.fr) (by dsimp only;omega) ⟨by dsimp only;omega,by dsimp only;omega⟩ (by exact Qu J ⟨rfl,rfl,rfl,rfl,by simp only [Int.natCast_add];rfl,trivial⟩)))
      · rw [if_neg (fun h=>by rw [h2] at h;cases h.1)] at hq;refine Qw J J J (Qw J J J (Qw J J J (Qw J J J (Qw J J J (Q7 J J J J (Qj (hK _ _ (Qz (Xy J (QW (Qz ?_)))))))))));clear hK K;refine Qx (fun K hK=> ?_);refine Qq J J J (Qc (n:=5) J J J J J lES J (QJ J J J fS11 J (Z6 J J fN0 J (QQ J J J J J lAddr J (XQ (i:=8) (enc:=esE) (cv:=adrF) sc c.fr J J J (KeyIs.agg (us:=esV sc) J) J uMSeen keyES (Qj (hK _ _ (Qz ?_))))))));clear hK K;refine Qx (fun K hK=> ?_)
        refine Qk (iadd (by omega) (by omega)) J J J J ?_
        refine Qq J J J (Qj (hK _ _ (Q6 ?_)));clear hK K;refine Xq 3 (Xq 0 (Q9 (i+1,ins m sc c.fr) (by dsimp only;omega) ⟨by dsimp only;omega,by dsimp only;omega⟩ (by exact Qu J ⟨rfl,rfl,rfl,rfl,by simp only [Int.natCast_add];rfl,trivial⟩)))
  · have hi' :i=l.length:=by omega
    rw [hi',List.drop_length] at hq;simp only [clashG,Nat.add_zero] at hq;refine Qm (Qz (Qy (Qx fun K hK=> ?_)));refine Qq J J J (Qh J J sRes.und (List.length_map ..) J (Qv J J J (Qj (hK _ _ (Qz (Q4 ?_))))));clear hK K;refine Q1 [_] rfl (QX J QZ) (by rw [hq];rfl) J
theorem witG_loop{p:Rs→Bool}{z:Rs}:∀(l:List Rs) (i:Nat),(∀j,j<i→j<l.length→p (l.getD j z)=false)→i≤l.length→l.findIdx? p=((l.drop i).findIdx? p).map (· +i)
  | [],i,_,h=>by
    have:i=0:=by simpa using h
    subst this;rfl
  |a::l,0,_,_=>by simp
  |a::l,i+1,h,hi=>by
    have h0:p a=false:=h 0 (Nat.succ_pos _) (Nat.succ_pos _)
    have ih:=witG_loop l i (fun j h1 h2=>h (j+1) (by omega) (by simpa using h2)) (by simpa using hi)
    rw [List.findIdx?_cons,h0,ih]
    simp only [List.drop_succ_cons,Bool.false_eq_true,if_false,Option.map_map,Function.comp_def]
    rfl
abbrev witC (o : List Rs) : List CT := match witG o with
  | some i => [ikC (idOf (o.getD i rs0)), ikC (idOf (o.getD (clashG [] o) rs0)), boolC true]
  | none => [ikC ⟨0, 0, 0⟩, ikC ⟨0, 0, 0⟩, boolC false]
theorem goWitness:InGo Tryz.prog 105:=InGo.of Tryz.func105 rfl (by decide)
theorem take_getD{l:List Rs}{z:Rs}{k i:Nat}(h:i<k):(l.take k).getD i z=l.getD i z:=by
  rw [List.getD_eq_getElem?_getD,List.getElem?_take_of_lt h,←List.getD_eq_getElem?_getD]
theorem fidx_drop{p:Rs→Bool}{z:Rs}{l:List Rs}{k i:Nat}(hk:k≤l.length)(hi:i≤k)(h:∀j,j<i→p (l.getD j z)=false):(l.take k).findIdx? p=(((l.take k).drop i).findIdx? p).map (· +i):=by
  refine witG_loop (z:=z) (l.take k) i (fun j h1 h2=> ?_) (by rw [List.length_take];omega);rw [List.getD_eq_getElem?_getD,List.getElem?_take_of_lt (by rw [List.length_take] at h2;omega),←List.getD_eq_getElem?_getD];exact h j h1
set_option maxHeartbeats 4000000 in
theorem Witness_ok(l:List Rs)(hl:l.length≤10000):Ok Tryz.prog 105 [rssC l] (.fr (tupT (witC (sd cmpR (l.filter okR))))):=by
  have hO:=Order_ok l hl
  have hol:(sd cmpR (l.filter okR)).length≤10000:=by
    have:=sd_len cmpR (l.filter okR);have:=List.length_filter_le okR l;omega
  generalize sd cmpR (l.filter okR)=o at hO hol ⊢;have hC:=Clash_ok o (by omega);have hle:=clashG_le o []
  have ew:witG o=if clashG [] o<o.length then (o.take (clashG [] o)).findIdx? (fun a=>conB a (o.getD (clashG [] o) rs0)) else none:=rfl
  have eC:(CT.fr (tupT (witC o)))= .fr (tupT (match witG o with
    |some i=>[ikC (idOf (o.getD i rs0)),ikC (idOf (o.getD (clashG [] o) rs0)),boolC true]
    |none=>[ikC ⟨0,0,0⟩,ikC ⟨0,0,0⟩,boolC false])):=rfl
  rw [eC];clear eC;generalize clashG [] o=k at hC hle ew ⊢;generalize witG o=wt at ew ⊢
  refine Ok.enter Tryz.func105 J _ Tryz.ntmps105 J ?_
  intro S w;refine Qy (Qx fun K hK=> ?_);refine Qf 0 J J zvID J J J (Qf 1 J J zvID J J J (Qv J J J (Qj (hK _ _ (Qz (Qy ?_))))));clear hK K;refine Qx (fun K hK=> ?_);refine Qq J J J (Zm 3 goOrder hO J J J J J J (ZY 3 _ J (rss_frozen _ _) noBor_sub (Qv J J J (Qj (hK _ _ (Qz (Qy ?_)))))));clear hK K;refine Qx (fun K hK=> ?_);refine Qq J J J (QV goClash hC J J J J (Qv J J J (Qj (hK _ _ (Qz (Qy (Qy ?_)))))));clear hK K;refine Qx (fun K hK=> ?_);refine Qv J J J (Qj (hK _ _ (Qz (Q3 ?_))));clear hK K
  refine Qs (α:=Nat) (fun i=>i≤k∧(k<o.length→∀j,j<i→conB (o.getD j rs0) (o.getD k rs0)=false))
    (fun i=>[(2, .own 0),(3, .own 1),(5, .ct (rssC o)),(6, .ct (intC k)),(7, .ct (intC i))]) (fun _=>[(1, .box 82 (ikCs ⟨0,0,0⟩)),(0, .box 82 (ikCs ⟨0,0,0⟩))]) (fun i=>k - i) 0 ⟨Nat.zero_le _,fun _ j hj=>by omega⟩ (by exact Qu J ⟨rfl,rfl,rfl,rfl,rfl,trivial⟩) ?_
  intro i ⟨hi,hq⟩
  try dsimp only
  refine Qy (Qy (Qx fun K hK=> ?_));refine Qq J J J (Qq J J J (Qk ilss J J J J (Qq J J J (Qi 15 (p:=(i:Int)<k) J (fun h=> ?_) (fun h=> ?_)))))
  · refine Qq J J J (Qq J J J (Qh J J sRes.und (List.length_map ..) J (Qk ilss J J J J (Q5 J J J J (Qj (hK _ _ (Qz ?_)))))));clear hK K;refine Q2 J (fun h2=> ?_) (fun h2=> ?_)
    · have hk:k<o.length:=by omega
      rw [if_pos hk,fidx_drop (i:=i) hle hi (hq hk)] at ew;have e1:(i:Int).toNat=i:=Int.toNat_natCast i;have e2:(k:Int).toNat=k:=Int.toNat_natCast k;rw [drop_getD (z:=rs0) (show i<(o.take k).length by rw [List.length_take];omega),take_getD (by omega),List.findIdx?_cons] at ew;have hCo:=Contradict_ok (o.getD i rs0) (o.getD k rs0)
      have hn:conB (o.getD i rs0) (o.getD k rs0)=false→∀j,j<i+1→conB (o.getD j rs0) (o.getD k rs0)=false:=fun h j hj=>by
        rcases Nat.lt_or_ge j i with h3|h3
        · exact hq hk j h3
        · have:j=i:=by omega
          rw [this];exact h
      generalize conB (o.getD i rs0) (o.getD k rs0)=cb at hCo hn ew;have hA:=Identity_ok (o.getD i rs0);have hB:=Identity_ok (o.getD k rs0);refine QW (Qz (Qy (Q3 (Qy ?_))));refine XX mixed 9 (.p 0 (.p 1 (.p 2 (.p 4 (.p 5 (.p 6 (.f 3 (.f 7 (.m 8 .done))))))))) (by kernel_rfl) (fun K hK=> ?_);refine Qq J J J (Qq J J J (Xx J J J sRes (by omega) (rss_at (by omega) (by omega)) J ?_));refine Qq J J J (Qq J J J (Xx J J J sRes (by omega) (rss_at (by omega) (by omega)) J ?_));refine Xc (n:=17) J J J lRes J J (Xc (n:=17) J J J lRes J J ?_);rw [e1,e2];skip;refine QV goContradict hCo J J J J (Qj (hK _ _ (Qz ?_)));clear hK K;refine X6 J (fun h3=> ?_) (fun h3=> ?_)
      · rw [if_pos h3] at ew;simp only [Option.map_some,Nat.zero_add] at ew;refine Qy (XX mixed 10 (.p 0 (.p 1 (.p 2 (.p 5 (.p 6 (.p 7 (.f 3 (.fork 4 (.m 8 (.m 9 (.a 10 (.a 11 (.p 12 .done))))) 8 (.m 4 (.m 9 (.a 10 (.a 11 (.p 12 .done))))))))))))) (by kernel_rfl) (fun K hK=> ?_));refine Qq J J J (Qq J J J (Xx J J J sRes (by omega) (rss_at (by omega) (by omega)) J ?_));refine Qq J J J (Qq J J J (Xx J J J sRes (by omega) (rss_at (by omega) (by omega)) J ?_))
        refine Xc (n:=17) J J J lRes J J ?_
        rw [e1];skip
        refine Ops.fork ?_ ?_
        · refine QV goIdentity hA J J J J (Xc (n:=17) J J J lRes J J ?_);rw [e2];skip
          refine QV goIdentity hB J J J J ?_
          skip;refine Qa 3 J J J J J szID J J (Qa 3 J J J J J szID J J (Qv J J J (Qj (hK _ _ (Qz (Q4 (Qb (QY (QY (Qb (QY ?_)))))))))));clear hK K;refine Q1 [_,_,_] rfl (Qg (n:=3) J J lID J (Qg (n:=3) J J lID J (QX J QZ))) (by rw [ew];rfl) J
        · refine Xc (n:=17) J J J lRes J J ?_
          rw [e2];skip
          refine QV goIdentity hA J J J J ?_
          skip
          refine QV goIdentity hB J J J J ?_
          skip;refine Qa 3 J J J J J szID J J (Qa 3 J J J J J szID J J (Qv J J J (Qj (hK _ _ (Qz (Q4 (Qb (QY (QY (Qb (QY ?_)))))))))));clear hK K;refine Q1 [_,_,_] rfl (Qg (n:=3) J J lID J (Qg (n:=3) J J lID J (QX J QZ))) (by rw [ew];rfl) J
      · refine QW (Qz (Qx fun K hK=> ?_));refine Qq J J J (Qk (iadd (by omega) (by omega)) J J J J ?_);refine Qv J J J (Qj (hK _ _ (Q6 ?_)));clear hK K;refine Q9 (i+1) (by omega) ⟨by omega,fun _=>hn h3⟩ (by exact Qu J ⟨rfl,rfl,rfl,rfl,by simp only [Int.natCast_add];rfl,trivial⟩)
    · rw [if_neg (by omega)] at ew;refine Qm (Qz (Qy (Qx fun K hK=> ?_)));refine Qo J bID' J .nil J (Qo J bID' J .nil J (Qa 3 J J J J J szID J J (Qa 3 J J J J J szID J J (Qv J J J (Qj (hK _ _ (Qz (Q4 ?_))))))));clear hK K;refine Q1 [_,_,_] rfl (Qg (n:=3) J J lID J (Qg (n:=3) J J lID J (QX J QZ))) (by rw [ew];rfl) J
  · have ew:wt=none:=by
      rw [ew];split
      · rename_i hk
        rw [fidx_drop (i:=i) hle hi (hq hk),show i=k by omega,List.drop_of_length_le (by rw [List.length_take];omega)];rfl
      · rfl
    refine Qw J J J (Qw J J J (Qw J J J (Qw J J J (Q7 J J J J (Qj (hK _ _ (Qz (Xy J (Qm (Qz (Qy ?_)))))))))));clear hK K;refine Qx (fun K hK=> ?_);refine Qo J bID' J .nil J (Qo J bID' J .nil J (Qa 3 J J J J J szID J J (Qa 3 J J J J J szID J J (Qv J J J (Qj (hK _ _ (Qz (Q4 ?_))))))));clear hK K;refine Q1 [_,_,_] rfl (Qg (n:=3) J J lID J (Qg (n:=3) J J lID J (QX J QZ))) (by rw [ew];rfl) J
theorem goConsistent:InGo Tryz.prog 60:=InGo.of Tryz.func60 rfl (by decide)
def consB (l : List Rs) : Bool := (witG (sd cmpR (l.filter okR))).isNone
theorem Consistent_ok(l:List Rs)(hl:l.length≤10000):Ok Tryz.prog 60 [rssC l] (boolC (consB l)):=by
  have hW:=Witness_ok l hl;have e0:consB l=(witG (sd cmpR (l.filter okR))).isNone:=rfl
  have hw:∃i j:Ik,witC (sd cmpR (l.filter okR))=[ikC i,ikC j,boolC (!consB l)]:=by
    rw [e0];unfold witC
    cases witG (sd cmpR (l.filter okR)) <;>exact ⟨_,_,rfl⟩
  obtain ⟨a,b,hw⟩:=hw;rw [hw] at hW;generalize consB l=c at hW ⊢
  refine Ok.enter Tryz.func60 J _ Tryz.ntmps60 J ?_
  intro S w;refine Qy (Qx fun K hK=> ?_);refine Qv J J J (Qj (hK _ _ (Qz (Qy ?_))));clear hK K;refine Qx (fun K hK=> ?_);refine Qq J J J (QV goWitness hW J J J J (Qq J J J (QK J J J J (QK J J J J (QK J J J J (Qf 0 J J zvID J J J (Qf 1 J J zvID J J J (Qa 3 J J J J J szID J J (Qa 3 J J J J J szID J J (Qv J J J (Qj (hK _ _ (Qz (Qy ?_))))))))))))));clear hK K;refine Qx (fun K hK=> ?_);refine Qq J J J (Xz J J J (Qv J J J (Qj (hK _ _ (Qz (Q4 ?_))))));clear hK K;refine Q1 [_] rfl (QX J QZ) (by rw [Bool.not_not];rfl) J
end Go.Proofs.YtojkdfilabmafaaGreat
namespace Go.Proofs.YtojkdfilabmafaaGreat
open Go.Own Go.Limbs
def chkF (l : List Rs) : Int := if (l.any fun r => !okR r) = true then 1 else if 512 < ((sd cmpR (l.filter okR)).length : Int) then 5 else if consB l = true then 0 else 30
def crsF (l : List Rs) (w : Wr) (b : Bool) : List Rs := (sd cmpR (l.filter okR)).filter fun r => decide (w ∈ wayF l r) && (r.an == b)
structure Cn where
  wr : Wr
  se : Int
  lo : Int
  hi : Int
deriving DecidableEq
def cn0 : Cn := ⟨(0, 0), 0, 0, 0⟩
def cntF (l : List Rs) (w : Wr) (b : Int) : Cn × Int :=
  if b < 0 ∨ 1048576 < b then (cn0, 1)
  else if chkF l ≠ 0 then (cn0, chkF l)
  else if (crsF l w true).length + (crsF l w false).length = 0 then (cn0, 8)
  else (⟨w, ((crsF l w true).length : Int) + (crsF l w false).length, max 0 ((crsF l w false).length - b), (crsF l w false).length⟩, 0)
def adN (t : Int) : Fin 4294967296 := ⟨t.toNat % 4294967296, Nat.mod_lt _ (by decide)⟩
theorem adN_val{t:Int}(h:0≤t)(h2:t<4294967296):((adN t).val:Int)=t:=by unfold adN;simp only;omega
def chF : Nat → Int → List (Fin 4294967296)
  | 0, _ => []
  | c + 1, t => adN t :: chF c (t + 1)
structure Chain (n : Nat) (t0 : Tk) (l : List Rs) : Prop where
  up : Up cmpR l
  ok : ∀ r ∈ l, okR r = true ∧ r.db = false ∧ r.fl = 0 ∧ trOf r = t0 ∧ 1 ≤ r.tt ∧ r.tt ≤ n ∧ (r.an = true → r.ki = 1 ∧ r.fr = adN r.tt)
  all : ∀ t : Int, 1 ≤ t → t ≤ n → ∃ r ∈ l, r.an = true ∧ r.tt = t
variable {n : Nat} {t0 : Tk} {l : List Rs}
theorem endF_zero:∀(l:List Rs) (e:Int),(∀r∈l,fiR r=false)→l.foldl endS e=e
  | [],_,_=>rfl
  |r::l,e,h=>by
    have h1:endS e r=e:=by unfold endS;rw [if_neg (by rw [h r (List.mem_cons_self ..)];simp)]
    rw [List.foldl_cons,h1]
    exact endF_zero l e fun x hx=>h x (List.mem_cons_of_mem _ hx)
abbrev stV (m : AdM × StM) (t : Int) : Int := (look1 m.2 (0, t)).getD 0
def invM (m : AdM × StM) : Prop := ∀ t : Int, stV m t ≤ 1 ∨ (stV m t = 2 ∧ look1 m.1 (0, t) = some (adN t))
theorem look_chain:∀(q:List Rs) (m:AdM × StM),(∀r∈q,usR r=true∧r.fl=0∧(r.an=true→r.fr=adN r.tt))→invM m→
    invM (q.foldl (lookS 0) m)∧∀t,(stV m t=2∨∃r∈q,r.an=true∧r.tt=t)→stV (q.foldl (lookS 0) m) t=2
  | [],m,_,hm=>⟨hm,fun t h=>h.elim id fun ⟨_,h,_⟩=>by cases h⟩
  |r::q,m,hq,hm=>by
    obtain ⟨h1,h2,h3⟩:=hq r (List.mem_cons_self ..)
    have key:invM (lookS 0 m r)∧∀t,(stV m t=2∨(r.an=true∧r.tt=t))→stV (lookS 0 m r) t=2:=by
      unfold lookS;rw [if_neg (by rw [h1];simp),h2]
      cases ha:r.an with
      |false=>
        rw [if_pos J];refine ⟨fun t=> ?_,fun t h=> ?_⟩
        · simp only [stV,look1_ins];have:=hm t;by_cases e:t=r.tt
          · subst e;rw [if_pos J];simp only [Option.getD_some];unfold stV at this;rcases this with h|⟨h,h'⟩
            · left;omega
            · right;exact ⟨by omega,h'⟩
          · rw [if_neg (by intro h;injection h with _ h;exact e h)];exact this
        · simp only [stV,look1_ins];rcases h with h|⟨h,_⟩
          · by_cases e:t=r.tt
            · subst e;rw [if_pos J];simp only [Option.getD_some];unfold stV at h;omega
            · rw [if_neg (by intro h;injection h with _ h;exact e h)];exact h
          · cases h
      |true=>
        rw [if_neg (by decide)];have h4:=h3 ha;have hr:=hm r.tt;unfold stV at hr;by_cases hs:(look1 m.2 (0,r.tt)).getD 0≤1
        · rw [if_pos hs];refine ⟨fun t=> ?_,fun t h=> ?_⟩
          · simp only [stV,look1_ins];by_cases e:t=r.tt
            · subst e;rw [if_pos J,if_pos J,h4];right;exact ⟨rfl,rfl⟩
            · rw [if_neg (by intro h;injection h with _ h;exact e h),if_neg (by intro h;injection h with _ h;exact e h)];exact hm t
          · simp only [stV,look1_ins];by_cases e:t=r.tt
            · subst e;rw [if_pos rfl];rfl
            · rw [if_neg (by intro h;injection h with _ h;exact e h)];rcases h with h|⟨_,h⟩
              · exact h
              · exact absurd h.symm e
        · rw [if_neg hs];rcases hr with hr|⟨hr,hr'⟩
          · exact absurd hr hs
          · rw [if_neg (by rw [hr',h4];simp)];refine ⟨hm,fun t h=> ?_⟩;rcases h with h|⟨_,h⟩
            · exact h
            · subst h;exact hr
    obtain ⟨k1,k2⟩:=key;obtain ⟨i1,i2⟩:=look_chain q (lookS 0 m r) (fun x hx=>hq x (List.mem_cons_of_mem _ hx)) k1;refine ⟨i1,fun t h=>i2 t ?_⟩;rcases h with h|⟨x,hx,h⟩
    · exact .inl (k2 t (.inl h))
    · rcases List.mem_cons.1 hx with rfl|hx
      · exact .inl (k2 t (.inr h))
      · exact .inr ⟨x,hx,h⟩
theorem Chain.us(h:Chain n t0 l){r:Rs}(hr:r∈l):usR r=true:=by
  obtain ⟨h1,h2,_⟩:=h.ok r hr;unfold usR;rw [h1,h2];rfl
theorem Chain.fi(h:Chain n t0 l):∀r∈l,fiR r=false:=fun r hr=>by
  obtain ⟨_,_,_,_,_,_,h3⟩:=h.ok r hr
  unfold fiR
  cases ha:r.an with
  |false=>rfl
  |true=>rw [(h3 ha).1];rfl
theorem Chain.look(h:Chain n t0 l):lookG l=l.foldl (lookS 0) ([],[]):=by
  have h1:endF l=0:=endF_zero l 0 h.fi;unfold lookG;rw [h1]
theorem pathG_chain{m:AdM × StM}(h1:∀t:Int,1≤t→t≤n→stV m t=2∧look1 m.1 (0,t)=some (adN t))(h2:hasS m.2 0 (n+1)=false):
    ∀(c k:Nat) (t:Int),1≤t→t+c=n+1→c<k→pathG m 0 k t=chF c t
  |0,k+1,t,_,he,_=>by
    unfold pathG
    have:t=(n:Int)+1:=by omega
    rw [this,h2];rfl
  |c+1,k+1,t,ht,he,hk=>by
    obtain ⟨a1,a2⟩:=h1 t ht (by omega)
    have:hasS m.2 0 t=true:=by unfold hasS;unfold stV at a1;rw [a1];rfl
    unfold pathG chF
    rw [if_pos this,a2,pathG_chain h1 h2 c k (t+1) (by omega) (by omega) (by omega)]
    rfl
  |_,0,_,_,_,h=>by omega
theorem Chain.path(h:Chain n t0 l)(hn:n<256):pathF l 0=chF n 1:=by
  unfold pathF;obtain ⟨i1,i2⟩:=look_chain l ([],[]) (fun r hr=>⟨h.us hr,(h.ok r hr).2.2.1,fun ha=>((h.ok r hr).2.2.2.2.2.2 ha).2⟩) (fun t=> .inl (by show (0:Int)≤1;decide));rw [←h.look] at i1 i2
  refine pathG_chain (n:=n) (fun t h1 h2=> ?_) ?_ n 256 1 (by decide) (by omega) hn
  · have e:=i2 t (.inr (h.all t h1 h2));refine ⟨e,?_⟩;rcases i1 t with h3|h3
    · rw [e] at h3;exact absurd h3 (by decide)
    · exact h3.2
  · cases hb:hasS (lookG l).2 0 (n+1) with
    |false=>rfl
    |true=>
      unfold hasS at hb
      cases e:look1 (lookG l).2 (0,(n:Int)+1) with
      |none=>rw [e] at hb;simp at hb
      |some v=>
        obtain ⟨_,r,hr,_,hs⟩:=lookG_keys l _ _ e
        injection hs with _ hs
        have:=(h.ok r hr).2.2.2.2.2.1;omega
theorem Chain.sd(h:Chain n t0 l):sd cmpR (l.filter okR)=l:=by
  have:l.filter okR=l:=List.filter_eq_self.2 fun r hr=>(h.ok r hr).1
  rw [this];exact sd_eq ordR h.up
def wk (k : Int) : Wr := (adN (k - 1), adN k)
theorem clash_chain:∀(q:List Rs) (m:SeenM),(∀r∈q,r.an=true→r.fr=adN r.tt)→(∀s v,look1 m s=some v→v=adN s.2.2)→clashG m q=q.length
  | [],_,_,_=>rfl
  |r::q,m,hq,hm=>by
    have ih:=fun m' =>clash_chain q m' fun x hx=>hq x (List.mem_cons_of_mem _ hx)
    unfold clashG
    rw [List.length_cons]
    by_cases hp:plB r=false
    · rw [if_pos hp,ih m hm]
    · rw [if_neg hp]
      have ha:r.an=true:=by
        unfold plB at hp
        cases h:r.an with
        |true=>rfl
        |false=>rw [h] at hp;exact absurd J hp
      have hr:=hq r (List.mem_cons_self ..) ha;rw [if_neg,ih]
      · intro s v hs;rw [look1_ins] at hs;split at hs
        · rename_i e;subst e;injection hs with hs;rw [←hs];exact hr
        · exact hm s v hs
      · rintro ⟨h1,h2⟩
        obtain ⟨v,hv⟩:=Option.isSome_iff_exists.1 h1;rw [hv] at h2;exact h2 (by rw [hr];exact hm _ v hv)
theorem Chain.cons(h:Chain n t0 l):consB l=true:=by
  unfold consB witG;rw [h.sd,clash_chain l [] (fun r hr ha=>((h.ok r hr).2.2.2.2.2.2 ha).2) (fun _ _ h=>by cases h)];simp
theorem Chain.chk(h:Chain n t0 l)(hl:l.length≤512):chkF l=0:=by
  unfold chkF;rw [if_neg,h.sd,if_neg (by omega),if_pos h.cons];intro h';obtain ⟨r,hr,h1⟩:=List.any_eq_true.1 h';rw [(h.ok r hr).1] at h1;cases h1
def mkX (o k t w : Int) : Rs := ⟨0, 0, k, 10 * k, 9, 17, 0, t, decide (w = 0), false, 10 * k + o, if w = 0 then adN t else 0, if w = 0 then 1 else 0, 0, 0, 0, 0⟩
def xF (o : Int) : Int → List (Int × Int) → List Rs
  | _, [] => []
  | i, p :: d => mkX o i p.1 p.2 :: xF o (i + 1) d
theorem cmpL_lt{x y:Int}{xs ys:List Int}(h:x<y):cmpL (x::xs) (y::ys)<0:=by
  have h1:cmp3 x y= -1:=by unfold cmp3;rw [if_pos h]
  have h2:cmpL (x::xs) (y::ys)=if cmp3 x y≠0 then cmp3 x y else cmpL xs ys:=rfl
  rw [h2,if_pos (by rw [h1];decide),h1];decide
def x0T : Tk := ⟨0, 9, 17⟩
end Go.Proofs.YtojkdfilabmafaaGreat
namespace Go.Proofs.YtojkdfilabmafaaGreat
open Go.Own Go.Limbs Go.Shelf
open Go.Sort hiding Ok
attribute [local irreducible] St Ops Go.Own.Fin Ok OkB OkN OkT OkL OkF OkM
def wsA (l : List Me) : List Wr := l.flatMap fun x => x.2
def vrF (l : List Rs) : List Wr := sd cmpW (wsA (msF l))
def vrO (l : List Rs) : List Wr × Int := if ¬ chkF l = 0 then ([], chkF l) else if 16 < ((vrF l).length : Int) then ([], 5) else (vrF l, 0)
theorem me_wires(l:List Rs):∀x∈msF l,x.2.length≤256:=fun x hx=>by
  obtain ⟨r,hr,rfl⟩:=List.mem_map.1 hx
  show (wsO _).1.length≤256
  unfold wsO
  have hp:(paF l r).length≤256:=pathF_len _ _
  split
  · rw [wsG_len,List.length_take];omega
  · exact Nat.zero_le _
theorem wsA_len:∀(l:List Me),(∀x∈l,x.2.length≤256)→(wsA l).length≤l.length*256
  | [],_=>Nat.le_refl _
  |x::l,h=>by
    have h1:=wsA_len l fun y hy=>h y (List.mem_cons_of_mem _ hy)
    have h2:=h x (List.mem_cons_self ..)
    have e:wsA (x::l)=x.2++wsA l:=by simp [wsA]
    rw [e,List.length_append,List.length_cons,Nat.succ_mul]
    omega
theorem lWrs1:Ld1 Tryz.prog 25:=Ld1.of _ Tryz.underlying25 rfl
theorem wrs_ones(l:List Wr):ones (wrs l)=true:=el_ones (fun _=>rfl) l
theorem goVar1:InGo Tryz.prog 57:=InGo.of Tryz.func57 rfl (by decide)
theorem Var1_ok(r:Rs):Ok Tryz.prog 57 [rsC r] (boolC (!okR r)):=by
  refine Ok.enter Tryz.func57 J _ Tryz.ntmps57 J ?_
  intro S w;refine Qy (Qx fun K hK=> ?_);refine Xu 0 J J J J J J J (Qv J J J (Qj (hK _ _ (Qz (Qy ?_)))));clear hK K;refine Qx (fun K hK=> ?_);refine Qc (n:=17) J J J J J lRes J (QV goValidR (ValidR_ok r) J J J J (Xz J J J (Qv J J J (Qj (hK _ _ (Qz (Q4 ?_)))))));clear hK K;refine Q1 [_] rfl (QX J QZ) J J
theorem goVariables:InGo Tryz.prog 27:=InGo.of Tryz.func27 rfl (by decide)
set_option maxHeartbeats 8000000 in
theorem Variables_ok(l:List Rs)(hl:l.length≤10000):Ok Tryz.prog 27 [rssC l] (.fr (tupT [wrsC (vrO l).1,intC (vrO l).2])):=by
  have hC:=ContainsFunc_res l _ (fun r=> !okR r) goVar1 (fun x _=>Var1_ok x) (by omega);have hO:=Order_ok l hl;have hN:=Consistent_ok l hl;have hM:=measures_ok l hl
  have e:vrO l=if ¬chkF l=0 then ([],chkF l) else if 16<((vrF l).length:Int) then ([],5) else (vrF l,0):=rfl
  have e1:chkF l=if (l.any fun r=> !okR r)=true then 1 else if 512<((sd cmpR (l.filter okR)).length:Int) then 5 else if consB l=true then 0 else 30:=rfl
  have e2:vrF l=dd ((wsA (msF l)).mergeSort fun x y=> !(ltOf cmpW) y x):=rfl
  have hol:(sd cmpR (l.filter okR)).length≤10000:=by
    have:=sd_len cmpR (l.filter okR);have:=List.length_filter_le okR l;omega
  have hml:(msF l).length≤10000:=by
    unfold msF;rw [List.length_map];exact Nat.le_trans (List.length_filter_le _ _) hol
  have hmw:=me_wires l;generalize vrO l=out at e ⊢;generalize vrF l=vr at e e2;generalize chkF l=c at e e1;generalize (l.any fun r=> !okR r)=b1 at hC e1;generalize sd cmpR (l.filter okR)=o at hO e1 hol;generalize consB l=b3 at hN e1;generalize msF l=ms at hM e2 hml hmw
  refine Ok.enter Tryz.func27 J _ Tryz.ntmps27 J ?_
  intro S w;refine Qy (Qx fun K hK=> ?_);refine Qv J J J (Qv J J J (Qj (hK _ _ (Qz (Qy (Q3 (Qy ?_)))))));clear hK K;refine Qx (fun K hK=> ?_);refine Qq J J J (QV goContainsFunc_res hC J J J J (Qv J J J (Qj (hK _ _ (Qz ?_)))));clear hK K;refine X6 J (fun h=> ?_) (fun h=> ?_)
  · rw [if_pos h] at e1;rw [if_pos (by rw [e1];decide),e1] at e;refine Qy (Qx fun K hK=> ?_);refine Qv J J J (Qv J J J (Qj (hK _ _ (Qz (Q4 (Qb (QY ?_)))))));clear hK K;refine Q1 [_,_] rfl (X7 YQ (QX J (QX J QZ))) (by rw [e];rfl) J
  rw [if_neg (by rw [h];decide)] at e1;refine Qy (Qx fun K hK=> ?_);refine Qq J J J (Zm 3 goOrder hO J J J J J J (ZY 3 _ J (rss_frozen _ _) noBor_sub (Qh J J sRes.und (List.length_map ..) J (Qk igtr J J J J (Qv J J J (Qj (hK _ _ (Qz ?_))))))));clear hK K;refine Q2 J (fun h2=> ?_) (fun h2=> ?_)
  · rw [if_pos h2] at e1;rw [if_pos (by rw [e1];decide),e1] at e;refine Qy (Qx fun K hK=> ?_);refine Qv J J J (Qv J J J (Qj (hK _ _ (Qz (Q4 (Qb (QY ?_)))))));clear hK K;refine Q1 [_,_] rfl (X7 YQ (QX J (QX J QZ))) (by rw [e];rfl) J
  rw [if_neg h2] at e1;refine Qy (Qx fun K hK=> ?_);refine Qq J J J (QV goConsistent hN J J J J (Xz J J J (Qv J J J (Qj (hK _ _ (Qz ?_))))));clear hK K;refine X6 J (fun h3=> ?_) (fun h3=> ?_)
  · rw [if_neg (by simpa using h3)] at e1;rw [if_pos (by rw [e1];decide),e1] at e;refine Qy (Qx fun K hK=> ?_);refine Qv J J J (Qv J J J (Qj (hK _ _ (Qz (Q4 (Qb (QY ?_)))))));clear hK K;refine Q1 [_,_] rfl (X7 YQ (QX J (QX J QZ))) (by rw [e];rfl) J
  rw [if_pos (by simpa using h3)] at e1;rw [if_neg (fun h=>h e1)] at e;refine QW (Qz (Qy (Qx fun K hK=> ?_)));refine Qv J J J (Qj (hK _ _ (Qz (Qy (Qy ?_)))));clear hK K;refine Qx (fun K hK=> ?_);refine Qq J J J (QV gomeasures hM J J J J (Qh J J sMes.und (List.length_map ..) J (Qq J J J (Qj (hK _ _ (Qz (Q3 ?_)))))));clear hK K
  refine YV 4 0 37 2 J J J ?_
  refine Qs (α:=Nat) (fun i=>i≤ms.length)
    (fun i=>[(4, .own 0),(20, .ct (mesC ms)),(21, .ct (intC ms.length)),(22, .ct (intC i))])
    (fun i=>[(0, .row 37 2 (wrs (wsA (ms.take i))))]) (fun i=>ms.length - i) 0 (Nat.zero_le _) (by exact Qu J ⟨rfl,rfl,rfl,rfl,trivial⟩) ?_
  intro i hi
  try dsimp only at hi ⊢
  refine Qy (Qx fun K hK=> ?_);refine Qk ilss J J J J (Qj (hK _ _ (Qz (Qy ?_))));clear hK K;refine Q2 J (fun h4=> ?_) (fun h4=> ?_)
  · have e4:(i:Int).toNat=i:=Int.toNat_natCast i
    have hs:wsA (ms.take (i+1))=wsA (ms.take i)++(ms.getD i me0).2:=by
      unfold wsA;rw [List.take_add_one,List.getElem?_eq_getElem (by omega),List.getD_eq_getElem?_getD,List.getElem?_eq_getElem (by omega),List.flatMap_append];simp
    have hwl:=wsA_len (ms.take i) fun x hx=>hmw x (List.mem_of_mem_take hx)
    rw [List.length_take] at hwl
    have hwl:(wsA (ms.take i)).length≤2560000:=by omega
    have hx2:=hmw (ms.getD i me0) (by rw [List.getD_eq_getElem?_getD,List.getElem?_eq_getElem (by omega)];exact List.getElem_mem _);refine QW (Qz (Qy (Q3 (Qy (Qx fun K hK=> ?_)))))
    refine Xx J J J sMes (by omega) (mes_at (by omega) (by omega)) J ?_
    rw [e4];generalize ms.getD i me0=x at hs hx2;generalize wsA (ms.take i)=q at hs hwl ⊢;obtain ⟨r,ws⟩:=x;dsimp only at hs hx2;refine Xc (n:=18) J J J lMe J J (Qf 1 J J zvMe J J J (Qa 18 J J J J J szMe J J (Qj (hK _ _ (Qz ?_)))));clear hK K;refine Qx (fun K hK=> ?_);refine Qq J J J (QJ J J J fMe1 J (QQ J J J J J lWrs1 J ?_))
    have hx3:(ws.map wrCs).length≤256:=by rw [List.length_map];exact hx2
    refine Ops.append q.length (wrs (q++ws)) J J J J sWrs (wrs_len q) (wrs_ones ws) (by show (q.length+(ws.map wrCs).length)*8≤_;omega) (by show q.length+(ws.map wrCs).length≤_;omega) (wrs_app q ws) J ?_
    refine Qv J J J (Qj (hK _ _ (Qz ?_)));clear hK K;refine Qx (fun K hK=> ?_)
    refine Qk (iadd (by omega) (by omega)) J J J J ?_
    refine Qq J J J (Qj (hK _ _ (Q6 ?_)));clear hK K;refine Xq 1 (Q9 (i+1) (by omega) (by omega) (by rw [hs];exact Qu J ⟨rfl,rfl,rfl,by simp only [Int.natCast_add];rfl,trivial⟩))
  have hi' :i=ms.length:=by omega
  have hwl:=wsA_len ms hmw
  have hwl:(wsA ms).length≤2560000:=by omega
  rw [hi',List.take_length];generalize wsA ms=q at e2 hwl ⊢
  have hvl:vr.length≤2560000:=by rw [e2];exact Nat.le_trans (dd_len _) (by rw [List.length_mergeSort];omega)
  refine Qm (Qz (Qy (Qx fun K hK=> ?_)));refine Qq J J J (Ops.callL goSortW (SortD_ok q (by omega)) J J J J J ?_);refine Qj (hK _ _ (Qz (Qy ?_)));clear hK K;refine Qx (fun K hK=> ?_);refine Qq J J J (Ops.callT goCompact_Wr (Compact_Wr_ok (q.mergeSort fun x y=> !(ltOf cmpW) y x) (by rw [List.length_mergeSort];omega)) J J J J J ?_);rw [←e2];refine Qv J J J (Qj (hK _ _ (Qz (Qy (Qy ?_)))));clear hK K;refine Qx (fun K hK=> ?_);refine Qq J J J (YW vr.length J J J (by decide) (wrs_len vr) sWrs.und J ?_);refine Qk igtr J J J J (Qj (hK _ _ (Qz ?_)));clear hK K;refine Q2 J (fun h5=> ?_) (fun h5=> ?_)
  · rw [if_pos h5] at e;refine Qy (Qx fun K hK=> ?_);refine Qv J J J (Qv J J J (Qj (hK _ _ (Qz (Q4 (QY ?_))))));clear hK K;refine Q1 [_,_] rfl (X7 YQ (QX J (QX J QZ))) (by rw [e];rfl) J
  rw [if_neg h5] at e;refine QW (Qz (Qy (Qx fun K hK=> ?_)));refine Qq J J J (Qv J J J (Qv J J J (Qj (hK _ _ (Qz (Q4 ?_))))));clear hK K;refine Y4 0 _ J (wrs_frozen _ _) noBor_sub (Q1 [_,_] rfl (QX J (QX J QZ)) (by rw [e];rfl) J)
end Go.Proofs.YtojkdfilabmafaaGreat
namespace Go.Proofs.YtojkdfilabmafaaGreat
open Go.Own Go.Limbs
def rpY (n t T : Int) : Rs := ⟨0, 0, n, 100 * n, 9, 17, 0, t, true, false, 100 * n + T, adN t, 1, 0, 0, 0, 0⟩
def yF : Int → List Int → List Rs
  | _, [] => []
  | i, T :: d => rpY i (i + 1) T :: yF (i + 1) d
theorem yF_len:∀(d:List Int) (i:Int),(yF i d).length=d.length
  | [],_=>rfl
  |_::d,i=>by show (yF (i+1) d).length+1=_;rw [yF_len d];rfl
theorem yF_mem{r:Rs}:∀{d:List Int} {i:Int},r∈yF i d→∃k:Nat,k<d.length∧r=rpY (i+k) (i+k+1) (d.getD k 0)
  | [],_,h=>by cases h
  |T::d,i,h=>by
    rcases List.mem_cons.1 h with rfl|h
    · exact ⟨0,Nat.succ_pos _,by rw [Int.natCast_zero,Int.add_zero];rfl⟩
    · obtain ⟨k,h1,h2⟩:=yF_mem h
      refine ⟨k+1,Nat.succ_lt_succ h1,?_⟩
      rw [h2,show i+1+(k:Int)=i+((k+1:Nat):Int) by omega];rfl
theorem yF_has:∀{d:List Int} {i:Int} {k:Nat},k<d.length→rpY (i+k) (i+k+1) (d.getD k 0)∈yF i d
  | [],_,_,h=>by cases h
  |T::d,i,0,_=>by rw [Int.natCast_zero,Int.add_zero];exact List.mem_cons_self ..
  |T::d,i,k+1,h=>by
    have:=yF_has (d:=d) (i:=i+1) (k:=k) (Nat.lt_of_succ_lt_succ h)
    rw [show i+1+(k:Int)=i+((k+1:Nat):Int) by omega] at this
    exact List.mem_cons_of_mem _ this
theorem yF_up:∀(d:List Int) (i:Int),Up cmpR (yF i d)
  | [],_=>List.Pairwise.nil
  |T::d,i=>by
    refine List.pairwise_cons.2 ⟨fun r hr=> ?_,yF_up d (i+1)⟩
    obtain ⟨k,_,rfl⟩:=yF_mem hr
    exact cmpL_lt (show 100*i<100*(i+1+k) by omega)
theorem yF_chain{d:List Int}(hd:d.length≤200)(hT:∀T∈d,0≤T∧T≤1000000):Chain d.length x0T (yF 0 d) where
  up:=yF_up d 0
  ok r hr:=by
    obtain ⟨k,hk,rfl⟩:=yF_mem hr
    have hm:d.getD k 0∈d:=by rw [List.getD_eq_getElem?_getD,List.getElem?_eq_getElem hk];exact List.getElem_mem hk
    have hb:=hT _ hm;generalize d.getD k 0=T at hb;have hv:=adN_val (t:=0+(k:Int)+1) (by omega) (by omega);refine ⟨?_,rfl,rfl,rfl,by show 1≤0+(k:Int)+1;omega,by show 0+(k:Int)+1≤d.length;omega,fun _=>⟨rfl,rfl⟩⟩;generalize hz:0+(k:Int)=z at hv
    have hP1:¬P1 (rpY z (z+1) T):=by unfold P1 rpY;simp only;omega
    have hP2:¬P2 (rpY z (z+1) T):=by unfold P2 rpY;simp only;omega
    have hP3:¬P3 (rpY z (z+1) T):=by unfold P3 rpY;simp
    have hP4:¬P4 (rpY z (z+1) T):=by unfold P4 rpY;simp only;omega
    have hck:ckE (rpY z (z+1) T)=0:=by unfold ckE;rw [if_neg hP1,if_neg hP2,if_neg hP3,if_neg hP4]
    have hf:(rpY z (z+1) T).fr.val≠0:=by show (adN (z+1)).val≠0;omega
    unfold okR;rw [hck,decide_eq_true hf];simp [rpY]
  all t ht1 ht2:=by
    have:=yF_has (d:=d) (i:=0) (k:=(t - 1).toNat) (by omega);rw [show (0:Int)+((t - 1).toNat:Int)=t - 1 by omega] at this;exact ⟨_,this,rfl,by show t - 1+1=t;omega⟩
theorem chF_take:∀(c n:Nat) (s:Int),c≤n→(chF n s).take c=chF c s
  |0,_,_,_=>by simp [chF]
  |c+1,n+1,s,h=>by show adN s::(chF n (s+1)).take c=_;rw [chF_take c n _ (by omega)];rfl
theorem chF_len:∀(c:Nat) (s:Int),(chF c s).length=c
  |0,_=>rfl
  |c+1,s=>by show (chF c (s+1)).length+1=_;rw [chF_len]
theorem chF_getD:∀(c:Nat) (s:Int) (i:Nat),i<c→(chF c s).getD i 0=adN (s+i)
  |c+1,s,0,_=>by show adN s=_;rw [Int.natCast_zero,Int.add_zero]
  |c+1,s,i+1,h=>by
    show (chF c (s+1)).getD i 0=_
    rw [chF_getD c _ i (by omega),show s+1+(i:Int)=s+((i+1:Nat):Int) by omega]
theorem chF_all:∀(c:Nat) (s:Int),1≤s→s+c≤4294967296→(chF c s).all (fun a=>decide (a≠0))=true
  |0,_,_,_=>rfl
  |c+1,s,h1,h2=>by
    have:=adN_val (t:=s) (by omega) (by omega)
    have hd:decide (adN s≠0)=true:=decide_eq_true (fun h=>by rw [h] at this;have:(0:Int)=s:=this;omega)
    rw [show chF (c+1) s=adN s::chF c (s+1) from rfl,List.all_cons,hd,chF_all c (s+1) (by omega) (by omega)];rfl
def wks (s : Int) (c : Nat) : List Wr := (List.range c).map fun i : Nat => wk (s + (i : Int))
theorem wks_succ(s:Int)(c:Nat):wks s (c+1)=wks s c++ [wk (s+c)]:=by
  unfold wks;rw [List.range_succ,List.map_append];rfl
theorem wsG_chF:∀(c:Nat) (s:Int),wsG (adN (s - 1)) (chF c s)=wks s c
  |0,_=>rfl
  |c+1,s=>by
    have:=wsG_chF c (s+1)
    rw [Int.add_sub_cancel] at this
    show (adN (s - 1),adN s)::wsG (adN s) (chF c (s+1))=_
    rw [this]
    unfold wks
    rw [List.range_succ_eq_map,List.map_cons,List.map_map,Int.natCast_zero,Int.add_zero]
    refine congrArg _ (List.map_congr_left fun i _=> ?_)
    show wk (s+1+i)=wk (s+((i+1:Nat):Int))
    congr 1;omega
theorem wsO_chF(c:Nat)(h:c≤1000):wsO (chF c 1)=(wks 1 c,true):=by
  unfold wsO;rw [chF_all c 1 (by decide) (by omega),if_pos J,←wsG_chF];rfl
section
variable {d : List Int}
theorem yF_pa(hd:d.length≤200)(hT:∀T∈d,0≤T∧T≤1000000){r:Rs}(hr:r∈yF 0 d):paF (yF 0 d) r=chF d.length 1:=by
  have h:=yF_chain hd hT;obtain ⟨_,_,hf,ht,_⟩:=h.ok r hr
  have e:((yF 0 d).filter fun x=>decide (trOf x=trOf r))=yF 0 d:=List.filter_eq_self.2 fun x hx=>by rw [(h.ok x hx).2.2.2.1,ht];simp
  unfold paF ofF;rw [h.sd,e,hf,h.path (by omega)]
theorem yF_ms(hd:d.length≤200)(hT:∀T∈d,0≤T∧T≤1000000):msF (yF 0 d)=(yF 0 d).map fun r=>(r,wks 1 r.tt.toNat):=by
  have h:=yF_chain hd hT
  have hw:∀r∈yF 0 d,mesB (yF 0 d) r=true∧meF (yF 0 d) r=(r,wks 1 r.tt.toNat):=fun r hr=>by
    obtain ⟨_,_,hf,ht,ha,hb,hc⟩:=h.ok r hr;have hu:=h.us hr;have hp:=yF_pa hd hT hr;have hl:=chF_len d.length 1
    have han:r.an=true:=by obtain ⟨k,_,rfl⟩:=yF_mem hr;rfl
    have hO:wsO ((chF d.length 1).take r.tt.toNat)=(wks 1 r.tt.toNat,true):=by rw [chF_take _ _ _ (by omega)];exact wsO_chF _ (by omega)
    have hg:(chF d.length 1).getD (r.tt.toNat - 1) 0=r.fr:=by
      rw [chF_getD _ _ _ (by omega),(hc han).2];congr 1;omega
    unfold mesB meF;rw [hp,hO,hg,han,hu,hl,decide_eq_true hb,decide_eq_true J];exact ⟨rfl,rfl⟩
  unfold msF;rw [h.sd,List.filter_eq_self.2 fun r hr=>(hw r hr).1]
  exact List.map_congr_left fun r hr=>(hw r hr).2
theorem cmpW_wk{a b:Int}(h0:1≤a)(h:a<b)(h2:b≤1000):cmpW (wk a) (wk b)<0:=by
  have h1:=adN_val (t:=a - 1) (by omega) (by omega);have h3:=adN_val (t:=b - 1) (by omega) (by omega);exact cmpL_lt (show ((adN (a - 1)).val:Int)<(adN (b - 1)).val by omega)
theorem wks_up{c:Nat}(h:c≤900):Up cmpW (wks 1 c):=by
  show List.Pairwise _ _;rw [List.pairwise_iff_getElem];intro i j hi hj hij
  have hl:(wks 1 c).length=c:=by unfold wks;rw [List.length_map,List.length_range]
  have e:∀(k:Nat) (hk:k<(wks 1 c).length),(wks 1 c)[k]=wk (1+k):=fun k hk=>by simp [wks]
  rw [e,e];exact cmpW_wk (by omega) (by omega) (by omega)
theorem wks_mem{c:Nat}{w:Wr}:w∈wks 1 c↔∃i:Nat,i<c∧w=wk (1+i):=by
  unfold wks;rw [List.mem_map];constructor
  · rintro ⟨i,hi,rfl⟩;exact ⟨i,List.mem_range.1 hi,rfl⟩
  · rintro ⟨i,hi,rfl⟩;exact ⟨i,List.mem_range.2 hi,rfl⟩
theorem yF_vr(hd:d.length≤200)(hT:∀T∈d,0≤T∧T≤1000000):vrF (yF 0 d)=wks 1 d.length:=by
  have h4:=sd_spec ordW (wsA (msF (yF 0 d)))
  refine Up.ext ordW h4.1 (wks_up (by omega)) fun w=> ?_
  show w∈sd cmpW (wsA (msF (yF 0 d)))↔_;rw [h4.2,yF_ms hd hT,wks_mem];unfold wsA;rw [List.mem_flatMap];constructor
  · rintro ⟨m,hm,hw⟩
    obtain ⟨r,hr,rfl⟩:=List.mem_map.1 hm;obtain ⟨k,hk,rfl⟩:=yF_mem hr;obtain ⟨i,hi,rfl⟩:=wks_mem.1 hw;have hi:i<(0+(k:Int)+1).toNat:=hi;exact ⟨i,by omega,rfl⟩
  · rintro ⟨i,hi,rfl⟩
    refine ⟨_,List.mem_map_of_mem (yF_has (i:=0) hi),wks_mem.2 ⟨i,?_,rfl⟩⟩;show i<(0+(i:Int)+1).toNat;omega
theorem yF_vrO(hd:d.length≤16)(hT:∀T∈d,0≤T∧T≤1000000):vrO (yF 0 d)=(wks 1 d.length,0):=by
  have hc:=(yF_chain (by omega) hT).chk (by rw [yF_len];omega)
  have hl:(wks 1 d.length).length=d.length:=by unfold wks;rw [List.length_map,List.length_range]
  unfold vrO;rw [if_neg (fun h=>h hc),yF_vr (by omega) hT,if_neg (by omega)]
end
end Go.Proofs.YtojkdfilabmafaaGreat
namespace Go.Proofs.YtojkdfilabmafaaGreat
open Go.Own Go.Limbs Go.Det
def cfW (vs ws : List Wr) (f : Int) : List Int := vs.map fun v => f * (ws.count v : Int)
def meR (vs : List Wr) (qu : Int) (m : Me) : List Rw := [⟨cfW vs m.2 1, m.1.bk - m.1.tm⟩, ⟨cfW vs m.2 (-1), qu - (m.1.bk - m.1.tm)⟩]
def rowsD (vs : List Wr) (mo qu : Int) (ms : List Me) : List Rw := (vs.map fun v => ⟨cfW vs [v] 1, mo⟩) ++ ms.flatMap (meR vs qu)
def tiB (mo qu : Int) : Bool := decide (0 ≤ mo ∧ mo ≤ 1073741824 ∧ 0 ≤ qu ∧ qu ≤ 1073741824)
def rwO (l : List Rs) (mo qu : Int) : List Rw × List Ik × Int :=
  if tiB mo qu = false then ([], [], 1) else if ¬ (vrO l).2 = 0 then ([], [], (vrO l).2)
  else if 64 < ((vrO l).1.length : Int) + 2 * (msF l).length then ([], [], 5) else (rowsD (vrO l).1 mo qu (msF l), (msF l).map (fun m => idOf m.1), 0)
def unL (n i : Nat) (f : Int) : List Int := (List.replicate n 0).set i f
theorem unL_getD{n i:Nat}(f:Int)(h:i<n)(j:Nat):(unL n i f).getD j 0=if j=i then f else 0:=by
  unfold unL;rw [List.getD_eq_getElem?_getD,List.getElem?_set];by_cases e:i=j
  · subst e;rw [if_pos rfl,if_pos (by simpa using h),if_pos rfl];rfl
  · rw [if_neg e,if_neg (fun h=>e h.symm)];by_cases hj:j<n
    · rw [List.getElem?_replicate,if_pos hj];rfl
    · rw [List.getElem?_replicate,if_neg hj];rfl
theorem rsum_un{n i:Nat}(f:Int)(h:i<n)(X:Nat→Int):rsum n (unL n i f) X=f*X i:=by
  unfold rsum;rw [Yj (i:=i) h (fun k _ hk=>by rw [unL_getD f h,if_neg hk,Int.zero_mul]),unL_getD f h,if_pos J]
end Go.Proofs.YtojkdfilabmafaaGreat
namespace Go.Proofs.YtojkdfilabmafaaGreat
open Go.Own Go.Limbs
theorem cfW_nil(vs:List Wr)(f:Int):cfW vs [] f=List.replicate vs.length 0:=by
  unfold cfW;refine List.eq_replicate_iff.2 ⟨List.length_map _,fun x hx=> ?_⟩;obtain ⟨v,_,rfl⟩:=List.mem_map.1 hx;rw [List.count_nil];exact Int.mul_zero f
theorem cfW_len(vs ws:List Wr)(f:Int):(cfW vs ws f).length=vs.length:=by unfold cfW;rw [List.length_map]
theorem cfW_out{vs:List Wr}{x:Wr}(h:x ∉ vs)(l:List Wr)(f:Int):cfW vs (l++ [x]) f=cfW vs l f:=by
  unfold cfW
  refine List.map_congr_left fun v hv=> ?_
  have hne:(x==v)=false:=by rw [beq_eq_false_iff_ne];exact fun e=>h (e▸hv)
  rw [List.count_append,List.count_singleton,hne];rfl
theorem cfW_get{vs:List Wr}(l:List Wr)(f:Int){k:Nat}(hk:k<vs.length):(cfW vs l f).getD k 0=f*(l.count (vs.getD k wr0):Int):=by
  unfold cfW;rw [List.getD_eq_getElem?_getD,List.getElem?_map,List.getElem?_eq_getElem hk,List.getD_eq_getElem?_getD,List.getElem?_eq_getElem hk];rfl
theorem cfW_el{vs:List Wr}(l:List Wr)(f:Int){k:Nat}(h:k<(cfW vs l f).length):(cfW vs l f)[k]=f*(l.count (vs.getD k wr0):Int):=by
  have:=cfW_get (vs:=vs) l f (k:=k) (by rw [cfW_len] at h;exact h);rw [List.getD_eq_getElem?_getD,List.getElem?_eq_getElem h] at this;exact this
theorem cfW_in{vs:List Wr}(hu:Up cmpW vs){x:Wr}(h:x∈vs)(l:List Wr)(f:Int):(cfW vs l f).set (posD vs x) ((cfW vs l f).getD (posD vs x) 0+f)=cfW vs (l++ [x]) f:=by
  obtain ⟨h1,h2⟩:=(posD_at hu).1 h
  have hun:∀k,k<vs.length→vs.getD k wr0=x→k=posD vs x:=fun k hk e=>by
    have hp:=posD_lt (t:=x) hu hk;rw [e,ordW.self] at hp
    have hk2:¬k<posD vs x:=fun h=>absurd (hp.2 h) (by decide)
    rcases Nat.lt_or_eq_of_le (Nat.le_of_not_lt hk2) with q|q
    · have h3:=List.pairwise_iff_getElem.1 hu _ _ h1 hk q;rw [List.getD_eq_getElem?_getD,List.getElem?_eq_getElem h1] at h2;rw [List.getD_eq_getElem?_getD,List.getElem?_eq_getElem hk] at e;simp only [Option.getD_some] at h2 e;rw [h2,e,ordW.self] at h3;exact absurd h3 (by decide)
    · exact q.symm
  refine List.ext_getElem (by rw [List.length_set,cfW_len,cfW_len]) fun k hk1 hk2=> ?_
  have hk:k<vs.length:=by rw [cfW_len] at hk2;exact hk2
  rw [List.getElem_set,cfW_el (l++ [x]) f hk2,List.count_append,List.count_singleton];by_cases e:posD vs x=k
  · have hx:vs.getD k wr0=x:=by rw [←e];exact h2
    rw [if_pos e,e,cfW_get l f hk,hx,if_pos (beq_self_eq_true x),Int.natCast_add,Int.mul_add,Int.natCast_one,Int.mul_one]
  · have hne:¬(x==vs.getD k wr0)=true:=fun h3=>e (hun k hk (eq_of_beq h3).symm).symm
    rw [if_neg e,if_neg hne,Nat.add_zero];exact cfW_el l f (by rw [cfW_len];exact hk)
theorem cfW_bd(vs l:List Wr){f:Int}(hf:f=1∨f= -1)(hl:l.length≤1000)(k:Nat): -1000≤(cfW vs l f).getD k 0∧(cfW vs l f).getD k 0≤1000:=by
  by_cases hk:k<vs.length
  · rw [cfW_get l f hk];have:l.count (vs.getD k wr0)≤1000:=Nat.le_trans List.count_le_length hl;generalize l.count (vs.getD k wr0)=c at this;rcases hf with rfl|rfl
    · omega
    · omega
  · rw [List.getD_eq_getElem?_getD,List.getElem?_eq_none (by rw [cfW_len];omega)];exact ⟨by decide,by decide⟩
end Go.Proofs.YtojkdfilabmafaaGreat
namespace Go.Own
theorem ushr1{p:Int}{kk:IntKind}:IBin .shr .u64 p kk 1 (.int .u64 (p/2)):= .of fun P t w=>by
  show (Op.shift .shr .u64 p kk 1).run P w=_
  have e:(Op.shift .shr .u64 p kk 1)=pure (.int .u64 (p.fdiv (2 ^ 1))):=rfl
  rw [e,Int.fdiv_eq_ediv_of_nonneg _ (by decide)]
  rfl
end Go.Own
namespace Go.Proofs.YtojkdfilabmafaaGreat
open Go.Own Go.Limbs
attribute [local irreducible] St Ops Go.Own.Fin Ok OkB OkN OkT OkL OkF OkM
theorem uUintD:Tryz.prog.underlying 165=some (.int .u64):=Tryz.underlying165
theorem goBSearch:InGo Tryz.prog 49:=InGo.of Tryz.func49 rfl (by decide)
set_option maxHeartbeats 8000000 in
theorem BSearch_ok(vs:List Wr)(x:Wr)(hu:Up cmpW vs)(hl:vs.length≤100000):Ok Tryz.prog 49 [wrsC vs,wrC x,cmpDV] (.fr (tupT [intC (posD vs x),boolC (decide (x∈vs))])):=by
  have hlt:=fun h (hh:h<vs.length)=>posD_lt (t:=x) hu hh
  have hat:=posD_at (t:=x) hu;have hpl:=posD_le vs x
  have hmem:decide (x∈vs)=decide (posD vs x<vs.length∧cmpW (vs.getD (posD vs x) wr0) x=0):=decide_eq_decide.2 (by
    rw [hat];exact and_congr_right fun _=>⟨fun h=>by rw [h];exact ordW.self x,fun h=>ordW.eq0 _ _ h⟩)
  clear hat;generalize posD vs x=ps at hlt hpl hmem ⊢;generalize decide (x∈vs)=bm at hmem ⊢
  refine Ok.enter Tryz.func49 J _ Tryz.ntmps49 J ?_
  intro S w;refine Qy (Qx fun K hK=> ?_);refine Xu 0 J J J J J J J (Qv J J J (Qv J J J (Qj (hK _ _ (Qz (Qy ?_))))));clear hK K;refine Qx (fun K hK=> ?_);refine Qq J J J (Qh J J sWrs.und (List.length_map ..) J (Qv J J J (Qj (hK _ _ (Qz (Qy ?_))))));clear hK K;refine Qx (fun K hK=> ?_);refine Qq J J J (Qv J J J (Qv J J J (Qj (hK _ _ (Qz (Qy (Q3 ?_)))))));clear hK K
  refine Qs (α:=Nat × Nat) (fun q=>q.1≤q.2∧q.2≤vs.length∧q.1≤ps∧ps≤q.2)
    (fun q=>[(0, .ct (wrsC vs)),(2, .ct cmpDV),(4, .own 0),(8, .ct (intC vs.length)),(9, .ct (intC q.1)),(10, .ct (intC q.2))]) (fun _=>[(0, .box 37 (wrCs x))]) (fun q=>q.2 - q.1) (0,vs.length) ⟨Nat.zero_le _,Nat.le_refl _,Nat.zero_le _,hpl⟩ (by exact Qu J ⟨rfl,rfl,rfl,rfl,rfl,rfl,trivial⟩) ?_
  rintro ⟨i,j⟩ ⟨hij,hj,h1,h2⟩
  dsimp only at hij hj h1 h2 ⊢;refine Qy (Qy (Qx fun K hK=> ?_));refine Qq J J J (Qq J J J (Qk ilss J J J J (Qj (hK _ _ (Qz ?_)))));clear hK K;refine Q2 J (fun h=> ?_) (fun h=> ?_)
  · have eh:((i:Int)+j)/2=(((i+j)/2:Nat):Int):=by omega
    have hh:i≤(i+j)/2∧(i+j)/2<j:=by omega
    refine QW (Qz (Q3 (Qy (Qx fun K hK=> ?_))));refine Qq J J J (Qq J J J (Qk (iadd (by omega) (by omega)) J J J J ?_))
    refine Z5 J J uInt uUintD (wrap_u (by omega) (by omega)) J ?_
    refine Qk ushr1 J J J J ?_
    rw [eh];generalize (i+j)/2=k at hh
    refine Z5 J J uUintD uInt (Z2 (by omega) (by omega)) J ?_
    clear eh;have e2:(k:Int).toNat=k:=Int.toNat_natCast k;have hk:=hlt k (by omega);refine Qv J J J (Qj (hK _ _ (Qz (Qy ?_))));clear hK K;refine XX mixed 8 (.p 0 (.p 1 (.p 2 (.p 3 (.f 4 (.f 5 (.m 6 (.p 7 .done)))))))) (by kernel_rfl) (fun K hK=> ?_);refine Qq J J J (Qq J J J (Qq J J J (Xx J J J sWrs (by omega) (wrs_at (by omega) (by omega)) J ?_)));rw [e2];refine Xc (n:=2) J J J Zs J J (Qc (n:=2) J J J J J Zs J (Ops.callF goDcmp J (Dcmp_ok _ _) J J J J (Qk ilss J J J J (Qj (hK _ _ (Qz ?_))))));clear hK K;refine Q2 J (fun h3=> ?_) (fun h3=> ?_)
    · have h4:=hk.1 h3;refine Qx (fun K hK=> ?_);refine Qq J J J (Qk (iadd (by omega) (by omega)) J J J J ?_);refine Qv J J J (Qj (hK _ _ (Ql (Q6 ?_))));clear hK K;refine Q9 (k+1,j) (by dsimp only;omega) ⟨by dsimp only;omega,by dsimp only;omega,by dsimp only;omega,by dsimp only;omega⟩ (by exact Qu J ⟨rfl,rfl,rfl,rfl,by simp only [Int.natCast_add];rfl,rfl,trivial⟩)
    · have h4:¬k<ps:=fun h=>h3 (hk.2 h)
      refine Qx (fun K hK=> ?_);refine Qq J J J (Qv J J J (Qj (hK _ _ (Ql (Q6 ?_)))));clear hK K;refine Q9 (i,k) (by dsimp only;omega) ⟨by dsimp only;omega,by dsimp only;omega,by dsimp only;omega,by dsimp only;omega⟩ (by exact Qu J ⟨rfl,rfl,rfl,rfl,rfl,rfl,trivial⟩)
  have hip:i=ps:=by omega
  subst hip;have e2:(i:Int).toNat=i:=Int.toNat_natCast i;clear hlt h1 h2 hij;refine Qm (Qz (Qy ?_));refine XX mixed 16 (.p 0 (.p 1 (.p 2 (.p 3 (.p 4 (.p 5 (.p 6 (.p 7 (.p 8 (.f 9 (.f 10 (.m 11 (.p 12 (.p 13 (.p 14 (.p 15 .done)))))))))))))))) (by kernel_rfl) (fun K hK=> ?_);refine Qq J J J (Qq J J J (Qq J J J (Qk ilss J J J J (Qq J J J (Qi 39 J (fun h3=> ?_) (fun h3=> ?_))))))
  · have hb:bm=decide (cmpW (vs.getD i wr0) x=0):=by rw [hmem];exact decide_eq_decide.2 ⟨fun h=>h.2,fun h=>⟨by omega,h⟩⟩
    refine Qq J J J (Qq J J J (Qq J J J (Xx J J J sWrs (by omega) (wrs_at (by omega) (by omega)) J ?_)));rw [e2];refine Xc (n:=2) J J J Zs J J (Qc (n:=2) J J J J J Zs J (Ops.callF goDcmp J (Dcmp_ok _ _) J J J J (Qk ieql J J J J (Q5 J J J J (Qv J J J (Qv J J J (Qj (hK _ _ (Qz (Q4 ?_))))))))));clear hK K;refine Q1 [_,_] rfl (QX J (QX J QZ)) (by rw [hb];rfl) J
  · have hb:bm=false:=by rw [hmem];exact decide_eq_false fun h=>h3 (by omega)
    refine Qw J J J (Qw J J J (Qw J J J (Qw J J J (Qw J J J (Qw J J J (Qw J J J (Qw J J J (Q7 J J J J (Qv J J J (Qv J J J (Qj (hK _ _ (Qz (Q4 ?_))))))))))))));clear hK K;refine Q1 [_,_] rfl (QX J (QX J QZ)) (by rw [hb];rfl) J
theorem gounit:InGo Tryz.prog 52:=InGo.of Tryz.func52 rfl (by decide)
set_option maxHeartbeats 4000000 in
theorem unit_ok(n k:Nat)(hk:k<n)(hn:n≤1000)(f:Int):Ok Tryz.prog 52 [intC n,intC k,intC f] (intsC (unL n k f)):=by
  have e2:(k:Int).toNat=k:=Int.toNat_natCast k
  refine Ok.enter Tryz.func52 J _ Tryz.ntmps52 J ?_
  intro S w;refine Qy (Qx fun K hK=> ?_);refine Qv J J J (Qj (hK _ _ (Qz (Qy ?_))));clear hK K;refine Qx (fun K hK=> ?_);refine Qq J J J (Zp 0 n J J J J sInts (by omega) (by omega) J J J ?_);rw [ints_made];refine Qv J J J (Qj (hK _ _ (Qz (Qy ?_))));clear hK K;refine Qx (fun K hK=> ?_);refine Qq J J J (Qq J J J (Qq J J J (XJ n J J J (by simp [ints]) J sInts (by omega) (by omega) J ?_)))
  refine Xj J J J J J zInt (by simp [Ent.cs];omega) ?_
  simp only [Ent.setc,ZX];rw [show (k:Int).toNat*1=k by omega];refine Qj (hK _ _ (Qz (Qy ?_)));clear hK K;refine Qx (fun K hK=> ?_);refine Qq J J J (Qv J J J (Qj (hK _ _ (Qz (Q4 ?_)))));clear hK K;refine Y4 0 _ J (Zy _ _) noBor_sub (Q1 [_] rfl (QX J QZ) J J)
end Go.Proofs.YtojkdfilabmafaaGreat
namespace Go.Proofs.YtojkdfilabmafaaGreat
open Go.Own Go.Limbs
attribute [local irreducible] St Ops Go.Own.Fin Ok OkB OkN OkT OkL OkF OkM
theorem takeS{α:Type}{z:α}{l:List α}{i:Nat}(h:i<l.length):l.take (i+1)=l.take i++ [l.getD i z]:=by
  rw [List.take_add_one,List.getElem?_eq_getElem h];simp [List.getD_eq_getElem?_getD,List.getElem?_eq_getElem h]
def rwsF (rs : List Rw) : List CT := (rs.map rwCs).flatten
theorem rw_len(r:Rw):(rwCs r).length=2:=rfl
theorem rwsF_len(l:List Rw):(rwsF l).length=l.length*2:=el_len rw_len l
theorem rwsF_snoc(l:List Rw)(r:Rw):rwsF (l++ [r])=rwsF l++rwCs r:=by simp [rwsF]
theorem rwsF_frozen(e:Nat)(l:List Rw):(Ent.row e 2 (rwsF l)).frozen (sliceT 2 (l.map rwCs)):=
  ⟨_,rfl,fun e he=>by obtain ⟨m,_,rfl⟩:=List.mem_map.mp he;rfl,by decide,rfl⟩
abbrev prB (vs : List Wr) (v : Value) (rs : List Rw) : BL := [(0, .box 108 [wrsC vs, .ex v]), (1, .rowx v 79 2 (rwsF rs))]
theorem fPr0:fldInfo Tryz.prog 108 0=some (0,some 1):=by kernel_rfl
theorem fPr1:fldInfo Tryz.prog 108 1=some (1,some 1):=by kernel_rfl
theorem lWrs1P:Ld1 Tryz.prog 25:=Ld1.of _ Tryz.underlying25 rfl
theorem lRws1:Ld1 Tryz.prog 56:=Ld1.of _ Tryz.underlying56 rfl
theorem zRws1:(Tryz.prog.info? 56).map (·.size)=some 1:=by kernel_rfl
theorem bRow:bInfo Tryz.prog 79=some (.agg #[.slice none 0 0, .int .i64 0],[(0,some 1),(1,some 1)]):=by kernel_rfl
theorem goadd:InGo Tryz.prog 46:=InGo.of Tryz.func46 rfl (by decide)
set_option maxHeartbeats 16000000 in
theorem add_ok(vs:List Wr)(hu:Up cmpW vs)(hvl:vs.length≤100)(v:Value)(hv:v.oneCell' =true)(rs:List Rw)(hrl:rs.length≤100000)(ws:List Wr)(hwl:ws.length≤1000)(f b:Int)(hf:f=1∨f= -1):
    OkM Tryz.prog 46 [.own 0, .ct (wrsC ws), .ct (intC f), .ct (intC b)] (prB vs v rs) [0] (fun v' :Value=>v'.oneCell' =true) (fun _=> .ct unitC) (fun v' =>prB vs v' (rs++ [⟨cfW vs ws f,b⟩])):=by
  refine OkM.enter Tryz.func46 J _ Tryz.ntmps46 J (fun i hi=>by rw [List.mem_singleton.1 hi];rfl) ?_
  intro S w ρ0 hbor;refine Qy (Qx fun K hK=> ?_);refine Qq J J J (Q0 J J J J (QJ J J J fPr0 J (QQ J J J J J lWrs1P J (Qh J J sWrs.und (List.length_map ..) J (Zp 2 vs.length J J J J sInts (by omega) (by omega) J J J ?_)))));rw [ints_made,←cfW_nil vs f];refine Qv J J J (Qj (hK _ _ (Qz (Qy (Qy ?_)))));clear hK K;refine Qx (fun K hK=> ?_);refine Qq J J J (Qh J J sWrs.und (List.length_map ..) J (Qq J J J (Qj (hK _ _ (Qz (Q3 ?_))))));clear hK K
  refine Qs (α:=Nat) (fun i=>i≤ws.length)
    (fun i=>[(0, .own 0),(2, .ct (intC f)),(3, .ct (intC b)),(8, .own 2),(19, .ct (wrsC ws)),(20, .ct (intC ws.length)),(21, .ct (intC i))])
    (fun i=>(2, .row 3 1 (ints (cfW vs (ws.take i) f)))::prB vs v rs) (fun i=>ws.length - i) 0 (Nat.zero_le _) (by exact Qu J ⟨rfl,rfl,rfl,rfl,rfl,rfl,rfl,trivial⟩) ?_
  intro i hi
  try dsimp only at hi ⊢
  refine Qy (Qx fun K hK=> ?_);refine Qk ilss J J J J (Qj (hK _ _ (Qz (Qy ?_))));clear hK K;refine Q2 J (fun h=> ?_) (fun h=> ?_)
  · have e2:(i:Int).toNat=i:=Int.toNat_natCast i;have hs:ws.take (i+1)=ws.take i++ [ws.getD i wr0]:=takeS (by omega);have hbd:=cfW_bd vs (ws.take i) hf (by rw [List.length_take];omega);refine QW (Qz (Qy (Q3 (Qy (Qx fun K hK=> ?_)))))
    refine Xx J J J sWrs (by omega) (wrs_at (by omega) (by omega)) J ?_
    rw [e2];generalize ws.getD i wr0=x at hs;refine Xc (n:=2) J J J Zs J J (Qf 3 J J zvWire J J J (Qa 2 J J J J J szWire J J (Qj (hK _ _ (Qz (Qy ?_))))));clear hK K;refine XX mixed 11 (.p 0 (.p 1 (.p 2 (.f 3 (.f 4 (.m 5 (.p 6 (.p 7 (.p 8 (.p 9 (.p 10 .done))))))))))) (by kernel_rfl) (fun K hK=> ?_);refine Qq J J J (Q0 J J J J (QJ J J J fPr0 J ?_));skip;refine QQ J J J J J lWrs1P J (Qc (n:=2) J J J J J Zs J (QV goBSearch (BSearch_ok vs x hu (by omega)) J J J J ?_));refine Qq J J J (QK J J J J (QK J J J J (Qv J J J (Qv J J J (Qj (hK _ _ (Qz (Qy ?_))))))));clear hK K;refine Qx (fun K hK=> ?_);refine Qq J J J (Qj (hK _ _ (Qz ?_)));clear hK K;by_cases hx:x∈vs
    · rw [decide_eq_true hx];have hin:=cfW_in hu hx (ws.take i) f;have hpl:=((posD_at hu).1 hx).1;have hbd:=hbd (posD vs x);have hcl:=cfW_len vs (ws.take i) f;rw [←hs] at hin;generalize posD vs x=k at hin hpl hbd ⊢;generalize cfW vs (ws.take i) f=cs at hin hbd hcl ⊢
      have e3:(k:Int).toNat*1=k:=by omega
      refine XZ J (Qx fun K hK=> ?_);refine Qq J J J (Qq J J J (XJ vs.length J J J (by simp [hcl]) J sInts (by omega) (by omega) J ?_));rw [e3]
      refine QQ J J J J (Xo (by omega)) lInt J ?_
      refine Qq J J J (Qk (iadd (by omega) (by omega)) J J J J ?_)
      refine XJ vs.length J J J (by simp [hcl]) J sInts (by omega) (by omega) J ?_
      rw [e3]
      refine Xj J J J J J zInt (by simp [Ent.cs];omega) ?_
      simp only [Ent.setc,ZX];rw [hin];refine Qj (hK _ _ (Qz ?_));clear hK K;refine Qx (fun K hK=> ?_)
      refine Qk (iadd (by omega) (by omega)) J J J J ?_
      refine Qq J J J (Qj (hK _ _ (Q6 ?_)));clear hK K;refine Xq 3 (Q9 (i+1) (by omega) (by omega) (by exact Qu J ⟨rfl,rfl,rfl,rfl,rfl,rfl,by simp only [Int.natCast_add];rfl,trivial⟩))
    · rw [decide_eq_false hx];have hout:=cfW_out hx (ws.take i) f;rw [←hs] at hout;rw [←hout];refine Xy J (QW (Qz (Qx fun K hK=> ?_)))
      refine Qk (iadd (by omega) (by omega)) J J J J ?_
      refine Qq J J J (Qj (hK _ _ (Q6 ?_)));clear hK K;refine Xq 3 (Q9 (i+1) (by omega) (by omega) (by exact Qu J ⟨rfl,rfl,rfl,rfl,rfl,rfl,by simp only [Int.natCast_add];rfl,trivial⟩))
  have hi' :i=ws.length:=by omega
  rw [hi',List.take_length];generalize cfW vs ws f=cs;refine Qm (Qz (Qx fun K hK=> ?_));refine Qq J J J (Qq J J J (Q0 J J J J (QJ J J J fPr1 J (QQ J J J J J lRws1 J (Qq J J J (Qq J J J (ZY 2 _ J (Zy _ _) hbor (Qo J bRow J (.one J J J J (.one J J J J .nil)) J (Zo (n:=2) J J sRows J J (by decide) J ?_)))))))));refine X4 47 1 J J (Qt rs.length (rwsF (rs++ [⟨cs,b⟩])) J J J J sRows (rwsF_len rs) J (by omega) (by omega) (rwsF_snoc rs ⟨cs,b⟩) J ?_);refine Q0 J J J J (QJ J J J fPr1 J (Ops.name 52 1 J J (fun v' hv' => ?_)))
  refine Xj (c:= .ex v') J J J J hv' zRws1 (by simp [Ent.cs]) ?_
  refine Qj (hK _ _ ?_);clear hK K;refine Fin.endM v' [] rfl QZ J (fun j=> ?_) hv';rfl
end Go.Proofs.YtojkdfilabmafaaGreat
namespace Go.Proofs.YtojkdfilabmafaaGreat
open Go.Own Go.Limbs Go.Det
def tmT (d : List Int) (t : Nat) : Int := if t = 0 then 0 else d.getD (t - 1) 0
theorem tmT_succ(d:List Int)(t:Nat):tmT d (t+1)=d.getD t 0:=by unfold tmT;rw [if_neg (Nat.succ_ne_zero t),Nat.add_sub_cancel]
theorem tmT_zero(d:List Int):tmT d 0=0:=rfl
def Gap (d : List Int) (mo qu : Int) : Prop := 0 ≤ qu ∧ ∀ t, t < d.length → qu ≤ tmT d (t + 1) - tmT d t ∧ tmT d (t + 1) - tmT d t + qu ≤ mo
theorem wks_len(c:Nat):(wks 1 c).length=c:=by unfold wks;rw [List.length_map,List.length_range]
theorem wk_inj{a b:Nat}(ha:a≤900)(hb:b≤900)(h:wk (1+a)=wk (1+b)):a=b:=by
  have h1:=adN_val (t:=1+(a:Int)) (by omega) (by omega);have h2:=adN_val (t:=1+(b:Int)) (by omega) (by omega);have h3:adN (1+(a:Int))=adN (1+(b:Int)):=congrArg (·.2) h;rw [h3] at h1;omega
theorem count_wks{j:Nat}(hj:j≤900):∀t:Nat,t≤900→(wks 1 t).count (wk (1+j))=if j<t then 1 else 0
  |0,_=>by rw [if_neg (Nat.not_lt_zero _)];rfl
  |t+1,ht=>by
    rw [wks_succ,List.count_append,count_wks hj t (by omega),List.count_singleton]
    by_cases e:t=j
    · subst e;rw [if_neg (Nat.lt_irrefl _),if_pos (Nat.lt_succ_self _)];simp
    · have hne:(wk (1+(t:Int))==wk (1+(j:Int)))=false:=by
        rw [beq_eq_false_iff_ne];exact fun h=>e (wk_inj (by omega) hj h)
      rw [hne,if_neg (show ¬(false=true) by decide),Nat.add_zero];by_cases h:j<t
      · rw [if_pos h,if_pos (show j<t+1 by omega)]
      · rw [if_neg h,if_neg (show ¬j<t+1 by omega)]
theorem cf_getD{n j:Nat}(ws:List Wr)(f:Int)(hj:j<n):(cfW (wks 1 n) ws f).getD j 0=f*(ws.count (wk (1+j)):Int):=by
  unfold cfW wks;rw [List.map_map,List.getD_eq_getElem?_getD,List.getElem?_map,List.getElem?_range hj];rfl
theorem pre_getD{n j t:Nat}(f:Int)(hj:j<n)(ht:t≤n)(hn:n≤16):(cfW (wks 1 n) (wks 1 t) f).getD j 0=if j<t then f else 0:=by
  rw [cf_getD _ _ hj,count_wks (by omega) t (by omega)];split
  · rw [Int.natCast_one,Int.mul_one]
  · rw [Int.natCast_zero,Int.mul_zero]
theorem one_getD{n i j:Nat}(hj:j<n)(hi:i<n)(hn:n≤16):(cfW (wks 1 n) [wk (1+i)] 1).getD j 0=if j=i then 1 else 0:=by
  rw [cf_getD _ _ hj,List.count_singleton];by_cases e:j=i
  · subst e;simp
  · have hne:(wk (1+(i:Int))==wk (1+(j:Int)))=false:=by
      rw [beq_eq_false_iff_ne];exact fun h=>e (wk_inj (by omega) (by omega) h).symm
    rw [hne,if_neg e];rfl
theorem tele(S:Nat→Int)(f:Int)(t:Nat):∀n:Nat,sm (fun j=>(if j<t then f else 0)*(S (j+1) - S j)) n=f*(S (min t n) - S 0)
  |0=>by rw [Nat.min_zero,Int.sub_self,Int.mul_zero];rfl
  |n+1=>by
    show sm _ n+(if n<t then f else 0)*(S (n+1) - S n)=_
    rw [tele S f t n]
    by_cases h:n<t
    · rw [if_pos h,Nat.min_eq_right (by omega),Nat.min_eq_right (by omega)];grind
    · rw [if_neg h,Nat.min_eq_left (by omega),Nat.min_eq_left (by omega),Int.zero_mul,Int.add_zero]
theorem rsum_pre{n t:Nat}(S:Nat→Int)(f:Int)(ht:t≤n)(hn:n≤16):rsum n (cfW (wks 1 n) (wks 1 t) f) (fun j=>S (j+1) - S j)=f*(S t - S 0):=by
  unfold rsum;rw [Xa (g:=fun j=>(if j<t then f else 0)*(S (j+1) - S j)) (fun k hk=>by rw [pre_getD f hk ht hn]),tele,Nat.min_eq_left ht]
theorem rsum_one{n i:Nat}(X:Nat→Int)(hi:i<n)(hn:n≤16):rsum n (cfW (wks 1 n) [wk (1+i)] 1) X=X i:=by
  unfold rsum;rw [Yj (i:=i) hi (fun k hk he=>by rw [one_getD hk hi hn,if_neg he,Int.zero_mul]),one_getD hi hi hn,if_pos J,Int.one_mul]
section
variable {d : List Int} {mo qu : Int}
def rowsY (d : List Int) (mo qu : Int) : List Rw := rowsD (wks 1 d.length) mo qu (msF (yF 0 d))
theorem rowsY_mem(hd:d.length≤16)(hT:∀T∈d,0≤T∧T≤1000000){r:Rw}:r∈rowsY d mo qu↔(∃i,i<d.length∧r=⟨cfW (wks 1 d.length) [wk (1+(i:Nat))] 1,mo⟩)∨
    ∃t,t<d.length∧(r=⟨cfW (wks 1 d.length) (wks 1 (t+1)) 1,tmT d (t+1)⟩∨r=⟨cfW (wks 1 d.length) (wks 1 (t+1)) (-1),qu - tmT d (t+1)⟩):=by
  have hm:∀k:Nat,meR (wks 1 d.length) qu (rpY (0+k) (0+k+1) (d.getD k 0),wks 1 (rpY (0+k) (0+k+1) (d.getD k 0)).tt.toNat)=
      [⟨cfW (wks 1 d.length) (wks 1 (k+1)) 1,tmT d (k+1)⟩,⟨cfW (wks 1 d.length) (wks 1 (k+1)) (-1),qu - tmT d (k+1)⟩]:=fun k=>by
    have e1:(rpY (0+k) (0+k+1) (d.getD k 0)).tt.toNat=k+1:=by show (0+(k:Int)+1).toNat=_;omega
    have e2:(rpY (0+(k:Int)) (0+k+1) (d.getD k 0)).bk - (rpY (0+(k:Int)) (0+k+1) (d.getD k 0)).tm=tmT d (k+1):=by
      rw [tmT_succ];show 100*(0+(k:Int))+d.getD k 0 - 100*(0+(k:Int))=_;omega
    unfold meR;dsimp only;rw [e1,e2]
  unfold rowsY rowsD;rw [List.mem_append,List.mem_map,yF_ms (by omega) hT,List.mem_flatMap];refine or_congr ⟨?_,?_⟩ ⟨?_,?_⟩
  · rintro ⟨w,hw,rfl⟩
    obtain ⟨i,hi,rfl⟩:=wks_mem.1 hw;exact ⟨i,hi,rfl⟩
  · rintro ⟨i,hi,rfl⟩
    exact ⟨_,wks_mem.2 ⟨i,hi,rfl⟩,rfl⟩
  · rintro ⟨m,hmm,hr⟩
    obtain ⟨x,hx,rfl⟩:=List.mem_map.1 hmm;obtain ⟨k,hk,rfl⟩:=yF_mem hx;rw [hm k] at hr;refine ⟨k,hk,?_⟩;rcases List.mem_cons.1 hr with h|h
    · exact .inl h
    · exact .inr (List.mem_singleton.1 h)
  · rintro ⟨k,hk,hr⟩
    refine ⟨_,List.mem_map_of_mem (yF_has (i:=0) hk),?_⟩;rw [hm k];rcases hr with h|h
    · rw [h];exact List.mem_cons_self ..
    · rw [h];exact List.mem_cons_of_mem _ (List.mem_cons_self ..)
theorem rowsD_len(vs:List Wr)(mo qu:Int):∀ms:List Me,(rowsD vs mo qu ms).length=vs.length+2*ms.length:=fun ms=>by
  have:∀ms:List Me,(ms.flatMap (meR vs qu)).length=2*ms.length:=fun ms=>by
    induction ms with
    |nil=>rfl
    |cons m ms ih=>rw [List.flatMap_cons,List.length_append,ih,List.length_cons];show 2+_=_;omega
  unfold rowsD
  rw [List.length_append,List.length_map,this]
theorem rowsY_len(hd:d.length≤16)(hT:∀T∈d,0≤T∧T≤1000000):(rowsY d mo qu).length=3*d.length:=by
  unfold rowsY;rw [rowsD_len,wks_len,yF_ms (by omega) hT,List.length_map,yF_len];omega
def stS (d : List Int) (qu : Int) (s t : Nat) : Int := tmT d t - (if t = s ∧ 0 < t then qu else 0)
theorem feasY(hd:d.length≤16)(hT:∀T∈d,0≤T∧T≤1000000)(hG:Gap d mo qu)(s:Nat):Feas d.length (rowsY d mo qu) 1 (fun j=>stS d qu s (j+1) - stS d qu s j):=by
  obtain ⟨hq,hg⟩:=hG
  have h0:stS d qu s 0=0:=by unfold stS;rw [if_neg (fun h=>absurd h.2 (Nat.lt_irrefl _)),tmT_zero];rfl
  have hst:∀t,stS d qu s t≤tmT d t∧tmT d t - qu≤stS d qu s t:=fun t=>by unfold stS;split <;>omega
  have hgap:∀j,j<d.length→0≤stS d qu s (j+1) - stS d qu s j∧stS d qu s (j+1) - stS d qu s j≤mo:=fun j hj=>by
    have h1:=hg j hj;have h2:=hst j;have h3:=hst (j+1);omega
  refine feas_of (fun v hv=>(hgap v hv).1) fun r hr=> ?_
  rcases (rowsY_mem hd hT).1 hr with ⟨i,hi,rfl⟩|⟨t,ht,rfl|rfl⟩
  · dsimp only;rw [rsum_one _ hi hd];exact (hgap i hi).2
  · dsimp only;rw [rsum_pre (stS d qu s) 1 (by omega) hd,h0];have:=hst (t+1);omega
  · dsimp only;rw [rsum_pre (stS d qu s) (-1) (by omega) hd,h0];have:=hst (t+1);omega
def hiY (d : List Int) (qu : Int) (i : Nat) : Int := tmT d (i + 1) - tmT d i + if i = 0 then 0 else qu
def loY (d : List Int) (qu : Int) (i : Nat) : Int := tmT d (i + 1) - tmT d i - qu
theorem hi_sol(hd:d.length≤16)(hT:∀T∈d,0≤T∧T≤1000000)(hG:Gap d mo qu){i:Nat}(hi:i<d.length){O:Oc}(h:Sol d.length (rowsY d mo qu) (unL d.length i 1) O):O.kind=1∧Btw (hiY d qu i) (hiY d qu i) O.value:=by
  have hF:=feasY hd hT hG i;have hl:=rowsY_len (mo:=mo) (qu:=qu) hd hT
  have hX:rsum d.length (unL d.length i 1) (fun j=>stS d qu i (j+1) - stS d qu i j)=hiY d qu i:=by
    rw [rsum_un _ hi,Int.one_mul];unfold stS hiY;rw [if_neg (by omega)];by_cases e:i=0
    · rw [if_neg (by omega),if_pos e];omega
    · rw [if_pos ⟨rfl,by omega⟩,if_neg e];omega
  have hY:∃Y,Dual d.length (rowsY d mo qu) (unL d.length i 1) 1 Y∧sm (fun k=>cb (rowsY d mo qu) k*Y k) (rowsY d mo qu).length=hiY d qu i:=by
    have m1:(⟨cfW (wks 1 d.length) (wks 1 (i+1)) 1,tmT d (i+1)⟩:Rw)∈rowsY d mo qu:=(rowsY_mem hd hT).2 (.inr ⟨i,hi, .inl J⟩);by_cases e:i=0
    · obtain ⟨Y,y1,y2⟩:=dual_one (n:=d.length) (c:=unL d.length i 1) m1 (fun j hj=>by rw [unL_getD 1 hi,pre_getD 1 hj (by omega) hd];split <;>split <;>omega);refine ⟨Y,y1,y2.trans ?_⟩;unfold hiY;rw [if_pos e,e,tmT_zero];dsimp only;omega
    · have m2:(⟨cfW (wks 1 d.length) (wks 1 (i - 1+1)) (-1),qu - tmT d (i - 1+1)⟩:Rw)∈rowsY d mo qu:=(rowsY_mem hd hT).2 (.inr ⟨i - 1,by omega, .inr J⟩);rw [show i - 1+1=i by omega] at m2;obtain ⟨Y,y1,y2⟩:=dual_two (n:=d.length) (c:=unL d.length i 1) m1 m2 (fun j hj=>by rw [unL_getD 1 hi,pre_getD 1 hj (by omega) hd,pre_getD (-1) hj (by omega) hd];split <;>split <;>split <;>omega);refine ⟨Y,y1,y2.trans ?_⟩;unfold hiY;rw [if_neg e];dsimp only;omega
  obtain ⟨Y,y1,y2⟩:=hY;have:=sol_btw h (by omega) hF y1;rw [hX,y2] at this;exact this
theorem lo_sol(hd:d.length≤16)(hT:∀T∈d,0≤T∧T≤1000000)(hG:Gap d mo qu){i:Nat}(hi:i<d.length){O:Oc}(h:Sol d.length (rowsY d mo qu) (unL d.length i (-1)) O):O.kind=1∧Btw (-loY d qu i) (-loY d qu i) O.value:=by
  have hF:=feasY hd hT hG (i+1);have hl:=rowsY_len (mo:=mo) (qu:=qu) hd hT
  have hX:rsum d.length (unL d.length i (-1)) (fun j=>stS d qu (i+1) (j+1) - stS d qu (i+1) j)= -loY d qu i:=by
    rw [rsum_un _ hi];unfold stS loY;rw [if_pos ⟨rfl,Nat.succ_pos _⟩,if_neg (by omega)];omega
  have hY:∃Y,Dual d.length (rowsY d mo qu) (unL d.length i (-1)) 1 Y∧sm (fun k=>cb (rowsY d mo qu) k*Y k) (rowsY d mo qu).length= -loY d qu i:=by
    have m1:(⟨cfW (wks 1 d.length) (wks 1 (i+1)) (-1),qu - tmT d (i+1)⟩:Rw)∈rowsY d mo qu:=(rowsY_mem hd hT).2 (.inr ⟨i,hi, .inr J⟩);by_cases e:i=0
    · obtain ⟨Y,y1,y2⟩:=dual_one (n:=d.length) (c:=unL d.length i (-1)) m1 (fun j hj=>by rw [unL_getD (-1) hi,pre_getD (-1) hj (by omega) hd];split <;>split <;>omega);refine ⟨Y,y1,y2.trans ?_⟩;unfold loY;rw [e,tmT_zero];dsimp only;omega
    · have m2:(⟨cfW (wks 1 d.length) (wks 1 (i - 1+1)) 1,tmT d (i - 1+1)⟩:Rw)∈rowsY d mo qu:=(rowsY_mem hd hT).2 (.inr ⟨i - 1,by omega, .inl J⟩);rw [show i - 1+1=i by omega] at m2;obtain ⟨Y,y1,y2⟩:=dual_two (n:=d.length) (c:=unL d.length i (-1)) m1 m2 (fun j hj=>by rw [unL_getD (-1) hi,pre_getD (-1) hj (by omega) hd,pre_getD 1 hj (by omega) hd];split <;>split <;>split <;>omega);refine ⟨Y,y1,y2.trans ?_⟩;unfold loY;dsimp only;omega
  obtain ⟨Y,y1,y2⟩:=hY;have:=sol_btw h (by omega) hF y1;rw [hX,y2] at this;exact this
end
theorem cf_ok(vs ws:List Wr){f:Int}(hf:f=1∨f= -1)(hw:ws.length≤256):okCoeffs (vs.length:Int) (cfW vs ws f)=true:=by
  unfold okCoeffs;rw [Bool.and_eq_true,decide_eq_true_eq];refine ⟨by unfold cfW;rw [List.length_map];omega,?_⟩
  have:(cfW vs ws f).any badC=false:=by
    rw [List.any_eq_false];intro x hx;obtain ⟨v,_,rfl⟩:=List.mem_map.1 hx;have hc:ws.count v≤256:=Nat.le_trans List.count_le_length hw;generalize ws.count v=k at hc;unfold badC;rcases hf with rfl|rfl
    · simp;omega
    · simp;omega
  rw [this];rfl
theorem rowsD_valid{vs:List Wr}{ms:List Me}{mo qu:Int}(hv:vs.length≤16)(hl:vs.length+2*ms.length≤64)(hm:∀m∈ms,m.2.length≤256∧0≤m.1.bk - m.1.tm∧m.1.bk - m.1.tm≤2251799813685248)(ht:tiB mo qu=true):validR (vs.length:Int) (rowsD vs mo qu ms)=true:=by
  have ht:0≤mo∧mo≤1073741824∧0≤qu∧qu≤1073741824:=of_decide_eq_true ht
  have good:∀(ws:List Wr) (f b:Int),(f=1∨f= -1)→ws.length≤256→-4503599627370496≤b→b≤4503599627370496→badR (vs.length:Int) ⟨cfW vs ws f,b⟩=false:=fun ws f b hf hw h1 h2=>by
    unfold badR;dsimp only;rw [cf_ok vs ws hf hw,decide_eq_false (by omega),decide_eq_false (by omega)];rfl
  unfold validR;rw [decide_eq_true (by omega),decide_eq_true (by omega),decide_eq_true (by rw [rowsD_len];exact hl)]
  have:(rowsD vs mo qu ms).any (badR (vs.length:Int))=false:=by
    rw [List.any_eq_false];intro r hr;unfold rowsD at hr;rcases List.mem_append.1 hr with h|h
    · obtain ⟨v,_,rfl⟩:=List.mem_map.1 h;rw [good [v] 1 mo (.inl J) (by show 1≤256;decide) (by omega) (by omega)];decide
    · obtain ⟨m,hmm,h⟩:=List.mem_flatMap.1 h;obtain ⟨h1,h2,h3⟩:=hm m hmm;rcases List.mem_cons.1 h with rfl|h
      · rw [good m.2 1 _ (.inl J) h1 (by omega) (by omega)];decide
      · rw [List.mem_singleton.1 h,good m.2 (-1) _ (.inr J) h1 (by omega) (by omega)];decide
  rw [this];rfl
theorem unL_ok{n i:Nat}(h:i<n){f:Int}(hf:f=1∨f= -1):okCoeffs (n:Int) (unL n i f)=true:=by
  unfold okCoeffs;rw [Bool.and_eq_true,decide_eq_true_eq];refine ⟨by unfold unL;rw [List.length_set,List.length_replicate];omega,?_⟩
  have:(unL n i f).any badC=false:=by
    rw [List.any_eq_false];intro x hx
    have hb:x=0∨x=f:=by
      unfold unL at hx;rcases List.mem_or_eq_of_mem_set hx with h|h
      · exact .inl (List.eq_of_mem_replicate h)
      · exact .inr h
    unfold badC;rcases hb with rfl|rfl
    · decide
    · rcases hf with rfl|rfl <;>decide
  rw [this];rfl
theorem ok_time{r:Rs}(h:okR r=true):0≤r.tm∧r.tm≤2251799813685248∧0≤r.bk - r.tm∧r.bk - r.tm≤2251799813685248:=by
  unfold okR at h;rw [Bool.and_eq_true,decide_eq_true_eq] at h
  have hP:¬P1 r:=fun hp=>by have:=h.1;unfold ckE at this;rw [if_pos hp] at this;cases this
  unfold P1 at hP;omega
theorem me_time(l:List Rs):∀m∈msF l,(0≤m.1.tm∧m.1.tm≤2251799813685248)∧0≤m.1.bk - m.1.tm∧m.1.bk - m.1.tm≤2251799813685248:=fun m hm=>by
  obtain ⟨r,hr,rfl⟩:=List.mem_map.1 hm
  have h1:=(List.mem_filter.1 hr).1
  have h2:=(List.mem_filter.1 (((sd_spec ordR _).2 r).1 h1)).2
  obtain ⟨a,b,c,e⟩:=ok_time h2
  exact ⟨⟨a,b⟩,c,e⟩
def bdF (O1 O2 : Oc) : Oc × Oc × (Int × Int) × Int :=
  if O1.kind ≠ 1 ∨ O2.kind ≠ 1 then (oc0, oc0, (0, 0), 33) else if flV O2.value < -flV O1.value then (oc0, oc0, (0, 0), 33) else (O1, O2, (-flV O1.value, flV O2.value), 0)
end Go.Proofs.YtojkdfilabmafaaGreat
namespace Go.Own
section
variable {X : Ctx} {L : AL} {B : BL} {ops : Array Oper} {K : Act → World → Prop} {r : Pl} {k : Kd}
  {x y z : Operand} {d : Nat} {t t2 t' : TypeId} {pos : String} {af : Array Edge} {g : Option (Nat × Bool)}
theorem Entails.front{L' :AL}{B' :BL}(a:Nat)(e:Ent)(hb:bget B a=some e)(h:Entails X L ((a,e)::bdel B a) L' B'):Entails X L B L' B' :=fun x ρ w hI=>h x ρ w (hI.bext fun j=>by
  by_cases hj:a=j
  · subst hj;rw [Qd,hb]
  · rw [QU _ _ hj,XK _ (Ne.symm hj)])
end
end Go.Own
namespace Go.Proofs.YtojkdfilabmafaaGreat
open Go.Own Go.Limbs
attribute [local irreducible] St Ops Go.Own.Fin Ok OkB OkN OkT OkL OkF OkM
abbrev tiCs (mo qu : Int) : List CT := [intC mo, intC qu]
abbrev tiC (mo qu : Int) : CT := .fr (aggT (tiCs mo qu))
theorem lTi:LdN Tryz.prog 32 2:=LdN.of _ Tryz.underlying32 rfl (by kernel_rfl)
theorem fTi0:fldInfo Tryz.prog 32 0=some (0,some 1):=by kernel_rfl
theorem fTi1:fldInfo Tryz.prog 32 1=some (1,some 1):=by kernel_rfl
theorem bPrg:bInfo Tryz.prog 108=some (.agg #[.slice none 0 0, .slice none 0 0],[(0,some 1),(1,some 1)]):=by kernel_rfl
theorem fMe0:fldInfo Tryz.prog 111 0=some (0,some 17):=by kernel_rfl
theorem goDValid:InGo Tryz.prog 30:=InGo.of Tryz.func30 rfl (by decide)
set_option maxHeartbeats 4000000 in
theorem DValid_ok(mo qu:Int):Ok Tryz.prog 30 [tiC mo qu] (boolC (tiB mo qu)):=by
  have no:¬(0≤mo∧mo≤1073741824∧0≤qu∧qu≤1073741824)→tiB mo qu=false:=fun h=>decide_eq_false h
  have yes:0≤mo→mo≤1073741824→0≤qu→tiB mo qu=decide (qu≤1073741824):=fun h1 h2 h3=>decide_eq_decide.2 ⟨fun h=>h.2.2.2,fun h=>⟨h1,h2,h3,h⟩⟩
  generalize tiB mo qu=out at no yes ⊢
  refine Ok.enter Tryz.func30 J _ Tryz.ntmps30 J ?_
  intro S w;refine Qy (Qx fun K hK=> ?_);refine Xu 0 J J J J J J J (Qv J J J (Qj (hK _ _ (Qz (Qy ?_)))));clear hK K;refine Qx (fun K hK=> ?_);refine QJ J J J fTi0 J (QQ J J J J J lInt J (Qk igeq J J J J (Qq J J J (Qi 6 J (fun h1=> ?_) (fun h1=> ?_)))));rotate_left
  · have e:=no (fun h=>h1 h.1);refine Qw J J J (Qw J J J (Qw J J J (Q7 J J J J (Qq J J J (Qw J J J (Qw J J J (Qw J J J (Q7 J J J J (Qq J J J (Qw J J J (Qw J J J (Qw J J J (Q7 J J J J (Qv J J J (Qj (hK _ _ (Qz (Q4 ?_))))))))))))))))));clear hK K;refine Q1 [_] rfl (QX J QZ) (by rw [e];rfl) J
  refine QJ J J J fTi0 J (QQ J J J J J lInt J (Qk ileq J J J J (Q5 J J J J (Qq J J J (Qi 11 J (fun h2=> ?_) (fun h2=> ?_))))));rotate_left
  · have e:=no (fun h=>h2 h.2.1);refine Qw J J J (Qw J J J (Qw J J J (Q7 J J J J (Qq J J J (Qw J J J (Qw J J J (Qw J J J (Q7 J J J J (Qv J J J (Qj (hK _ _ (Qz (Q4 ?_)))))))))))));clear hK K;refine Q1 [_] rfl (QX J QZ) (by rw [e];rfl) J
  refine QJ J J J fTi1 J (QQ J J J J J lInt J (Qk igeq J J J J (Q5 J J J J (Qq J J J (Qi 16 J (fun h3=> ?_) (fun h3=> ?_))))));rotate_left
  · have e:=no (fun h=>h3 h.2.2.1);refine Qw J J J (Qw J J J (Qw J J J (Q7 J J J J (Qv J J J (Qj (hK _ _ (Qz (Q4 ?_))))))));clear hK K;refine Q1 [_] rfl (QX J QZ) (by rw [e];rfl) J
  have e:=yes h1 h2 h3;refine QJ J J J fTi1 J (QQ J J J J J lInt J (Qk ileq J J J J (Q5 J J J J (Qv J J J (Qj (hK _ _ (Qz (Q4 ?_))))))));clear hK K;refine Q1 [_] rfl (QX J QZ) (by rw [e];rfl) J
theorem prog_none{vs:List Wr}{v:Value}{rs:List Rw}{j:Nat}(h:2≤j):bget (prB vs v rs) j=none:=by
  show bget ((0,_)::(1,_)::[]) j=none;rw [QU _ _ (by omega),QU _ _ (by omega)];rfl
theorem prog_swap{E:BL}(h:beside E=true)(vs:List Wr)(v:Value)(rs:List Rw)(j:Nat):bget (E++prB vs v rs) j=bget (prB vs v rs++E) j:=by
  rw [X8,X8]
  cases h1:bget E j with
  |none=>cases bget (prB vs v rs) j <;>rfl
  |some e=>
    have:=beside_get h (j:=j) (by rw [h1];rfl);rw [prog_none (by omega)];rfl
section
variable {X : Ctx} {L : AL} {B : BL} {ops : Array Oper} {K : Act → World → Prop} {r : Pl} {k : Kd}
  {x y z : Operand} {d : Nat} {t t2 t' : TypeId} {pos : String} {af : Array Edge} {g : Option (Nat × Bool)}
theorem Ops.callAdd{f:FuncId}{args:List Operand}{tys:Array TypeId}{As:List Sl}{vs:List Wr}{v:Value}{rs rs' :List Rw}{J:Value→Prop}(E:BL)(hgo:InGo X.P f)(hok:OkM X.P f As (prB vs v rs) [0] J (fun _=> .ct unitC) (fun q=>prB vs q rs'))(hg:gd ops L g=some true)(hargs:evS L args=some As)(hn:Nat.blt d X.n=true)
    (hbor:∀gb,X.bor gb→X.S0 gb) (hB:B=E++prB vs v rs) (hE:beside E=true) (hfix:∀p∈X.fix,(bget E p.1).isSome=true∨p.1∈ [0])
    (h:∀q,J q→Ops X ops r ((d, .ct unitC)::keepL kpT L) (E++prB vs q rs') K):Ops X ops (.cons ⟨some d, .call {callee:= .value (.func f),args:=args.toArray,argTypes:=tys},t,pos,af,g⟩ .any r) L B K:=by
  subst hB;refine Ops.callM E kpT hgo hok hg hargs hn hbor (prog_swap hE vs v rs) (fun j hj=> ?_) (fun j hj=> ?_) hfix (fun q j h=> ?_) (fun q hq=> ?_)
  · have:=beside_get hE hj;exact ⟨prog_none (by omega),fun q=>prog_none (by omega)⟩
  · unfold kpT at hj;rw [Bool.or_eq_true,Bool.and_eq_true] at hj;rcases hj with hj|⟨h1,h2⟩
    · exact .inl (by rw [Nat.eq_of_beq_eq_true hj];simp)
    · have:=Nat.le_of_ble_eq_true h1
      exact .inr fun q=>prog_none (by omega)
  · rcases h with h|⟨_,h⟩ <;>cases h
  · exact Ops.reB (fun j=>prog_swap hE vs q rs' j) (h q hq)
end
theorem goDRows:InGo Tryz.prog 17:=InGo.of Tryz.func17 rfl (by decide)
set_option maxHeartbeats 32000000 in
theorem DRows_ok(l:List Rs)(hl:l.length≤10000)(mo qu:Int):Ok Tryz.prog 17 [rssC l,tiC mo qu] (.fr (tupT [rowsC (rwO l mo qu).1,iksC (rwO l mo qu).2.1,intC (rwO l mo qu).2.2])):=by
  have hV:=DValid_ok mo qu;have hVa:=Variables_ok l hl;have hM:=measures_ok l hl;have hmw:=me_wires l;have hmt:=me_time l
  have hti:tiB mo qu=true→0≤mo∧mo≤1073741824∧0≤qu∧qu≤1073741824:=fun h=>of_decide_eq_true h
  have hml:(msF l).length≤10000:=by
    unfold msF;rw [List.length_map];have h1:=List.length_filter_le (mesB l) (sd cmpR (l.filter okR));have h2:=sd_len cmpR (l.filter okR);have h3:=List.length_filter_le okR l;omega
  have e:rwO l mo qu=if tiB mo qu=false then ([],[],1) else if ¬(vrO l).2=0 then ([],[],(vrO l).2)
    else if 64<((vrO l).1.length:Int)+2*(msF l).length then ([],[],5) else (rowsD (vrO l).1 mo qu (msF l),(msF l).map (fun m=>idOf m.1),0):=rfl
  have hvu:Up cmpW (vrO l).1:=by
    unfold vrO;split
    · exact List.Pairwise.nil
    · split
      · exact List.Pairwise.nil
      · exact (sd_spec ordW _).1
  have hvl:(vrO l).1.length≤16:=by
    unfold vrO;split
    · exact Nat.zero_le _
    · split
      · exact Nat.zero_le _
      · dsimp only;omega
  generalize rwO l mo qu=out at e ⊢;generalize tiB mo qu=tb at hV hti e;generalize vrO l=vo at hVa e hvu hvl;generalize msF l=ms at hM hmw hmt hml e;obtain ⟨vs,ve⟩:=vo;dsimp only at hVa e hvu hvl
  refine Ok.enter Tryz.func17 J _ Tryz.ntmps17 J ?_
  intro S w;refine Qy (Qx (fun K hK=> ?_));refine Xu 5 J J J J J J J (Qv J J J (Qv J J J (Qv J J J (Qj (hK _ _ (Qz (Qy (Qy ?_))))))));clear hK K;refine Qx (fun K hK=> ?_);refine Qc (n:=2) J J J J J lTi J (QV goDValid hV J J J J (Xz J J J (Qj (hK _ _ (Qz ?_)))));clear hK K;refine X6 J (fun h1=> ?_) (fun h1=> ?_)
  · rw [if_pos (by cases tb with|true=>cases h1|false=>rfl)] at e;refine Qy (Qx fun K hK=> ?_);refine Qv J J J (Qv J J J (Qv J J J (Qj (hK _ _ (Qz (Q4 (QY ?_)))))));clear hK K;refine Q1 [_,_,_] rfl (X7 YQ (QX J (X7 YQ (QX J (QX J QZ))))) (by rw [e];rfl) J
  have htb:tb=true:=by cases tb with|true=>rfl|false=>cases h1
  obtain ⟨t1,t2,t3,t4⟩:=hti htb;rw [if_neg (by rw [htb];decide)] at e;refine QW (Qz (Qy (Qx fun K hK=> ?_)));refine Qq J J J (QV goVariables hVa J J J J (Qq J J J (QK J J J J (QK J J J J (Qv J J J (Qv J J J (Qj (hK _ _ (Qz (Qy (Qy ?_)))))))))));clear hK K;refine Qx (fun K hK=> ?_);refine Qq J J J (Qk ineq J J J J (Qj (hK _ _ (Qz ?_))));clear hK K;refine Q2 J (fun h2=> ?_) (fun h2=> ?_)
  · rw [if_pos h2] at e;refine Qy (Qx fun K hK=> ?_);refine Qq J J J (Qv J J J (Qv J J J (Qv J J J (Qj (hK _ _ (Qz (Q4 (QY ?_))))))));clear hK K;refine Q1 [_,_,_] rfl (X7 YQ (QX J (X7 YQ (QX J (QX J QZ))))) (by rw [e];rfl) J
  rw [if_neg h2] at e;refine QW (Qz (Qy (Qx fun K hK=> ?_)));refine Qq J J J (QV gomeasures hM J J J J (Qv J J J (Qj (hK _ _ (Qz (Qy (Qy ?_)))))));clear hK K;refine Qx (fun K hK=> ?_);refine Qq J J J (Qh J J sWrs.und (List.length_map ..) J (Qq J J J (Qh J J sMes.und (List.length_map ..) J (Qk (imul (by omega) (by omega)) J J J J ?_))))
  refine Qk (iadd (by omega) (by omega)) J J J J ?_
  refine Qk igtr J J J J (Qj (hK _ _ (Qz ?_)));clear hK K;refine Q2 J (fun h3=> ?_) (fun h3=> ?_)
  · rw [if_pos (by omega)] at e;refine Qy (Qx fun K hK=> ?_);refine Qv J J J (Qv J J J (Qv J J J (Qj (hK _ _ (Qz (Q4 (QY ?_)))))));clear hK K;refine Q1 [_,_,_] rfl (X7 YQ (QX J (X7 YQ (QX J (QX J QZ))))) (by rw [e];rfl) J
  rw [if_neg (by omega)] at e
  have hms:ms.length≤32:=by omega
  refine QW (Qz (Qy (Qx fun K hK=> ?_)));refine Qq J J J (Qo J bPrg J (.one J J J J .nil) J (Xu 0 J J J J J J J (Qv J J J (Qj (hK _ _ (Qz (Qy (Qy ?_))))))));clear hK K;refine Qx (fun K hK=> ?_);refine Qq J J J (Qh J J sWrs.und (List.length_map ..) J (Qq J J J (Qj (hK _ _ (Qz (Q3 ?_))))));clear hK K
  refine St.nilX 1 79 2 J J ?_
  refine Qs (α:=Nat × Value) (fun q=>q.1≤vs.length∧q.2.oneCell' =true)
    (fun q=>[(3, .own 5),(7, .ct (wrsC vs)),(9, .ct (mesC ms)),(10, .own 0),(40, .ct (wrsC vs)),(41, .ct (intC vs.length)),(42, .ct (intC q.1))])
    (fun q=>(5, .box 32 (tiCs mo qu))::prB vs q.2 ((vs.take q.1).map fun v=>⟨cfW vs [v] 1,mo⟩)) (fun q=>vs.length - q.1) (0, .slice none 0 0) ⟨Nat.zero_le _,rfl⟩
    (Entails.front 0 _ J (Entails.front 5 _ J (by exact Qu J ⟨rfl,rfl,rfl,rfl,rfl,rfl,rfl,trivial⟩))) ?_
  rintro ⟨i,v⟩ ⟨hi,hv⟩
  dsimp only at hi hv ⊢;refine Qy (Qx fun K hK=> ?_);refine Qk ilss J J J J (Qj (hK _ _ (Qz (Qy ?_))));clear hK K;refine Q2 J (fun h4=> ?_) (fun h4=> ?_)
  · have e2:(i:Int).toNat=i:=Int.toNat_natCast i
    have hs:(vs.take (i+1)).map (fun v=>(⟨cfW vs [v] 1,mo⟩:Rw))=(vs.take i).map (fun v=>(⟨cfW vs [v] 1,mo⟩:Rw))++ [⟨cfW vs [vs.getD i wr0] 1,mo⟩]:=by rw [takeS (z:=wr0) (by omega),List.map_append];rfl
    have hrl:((vs.take i).map (fun v=>(⟨cfW vs [v] 1,mo⟩:Rw))).length≤16:=by rw [List.length_map,List.length_take];omega
    generalize (vs.take i).map (fun v=>(⟨cfW vs [v] 1,mo⟩:Rw))=rs at hs hrl ⊢;refine QW (Qz (Qy (Q3 (Qy (Qx fun K hK=> ?_)))))
    refine Xx J J J sWrs (by omega) (wrs_at (by omega) (by omega)) J ?_
    rw [e2];generalize vs.getD i wr0=x at hs;refine Xc (n:=2) J J J Zs J J (Qf 6 J J zvWire J J J (Qa 2 J J J J J szWire J J (Qj (hK _ _ (Qz ?_)))));clear hK K;refine Qx (fun K hK=> ?_);refine Qq J J J (Qc (n:=2) J J J J J Zs J (Zo (n:=2) J J sWrs J J (by decide) J ?_));refine QJ J J J fTi0 J (QQ J J J J J lInt J (Ops.callAdd (As:=[.own 0, .ct (wrsC [x]), .ct (intC 1), .ct (intC mo)]) [(6,_),(5,_)] goadd (add_ok vs hvu (by omega) v hv rs (by omega) [x] (by show 1≤1000;decide) 1 mo (.inl J)) J J J (fun _ h=>h.elim) J J (fun p hp=>absurd hp (by simp)) (fun v' hv' => ?_)));refine Qj (hK _ _ (Qz ?_));clear hK K;refine Qx (fun K hK=> ?_)
    refine Qk (iadd (by omega) (by omega)) J J J J ?_
    refine Qq J J J (Qj (hK _ _ (Q6 ?_)));clear hK K;refine Xq 6 (Q9 (i+1,v') (by dsimp only;omega) ⟨by dsimp only;omega,hv'⟩ (by rw [hs];exact Qu J ⟨rfl,rfl,rfl,rfl,rfl,rfl,by simp only [Int.natCast_add];rfl,trivial⟩))
  have hi' :i=vs.length:=by omega
  rw [hi',List.take_length]
  have hrl0:(vs.map (fun v=>(⟨cfW vs [v] 1,mo⟩:Rw))).length≤16:=by rw [List.length_map];omega
  have er:rowsD vs mo qu ms=vs.map (fun v=>(⟨cfW vs [v] 1,mo⟩:Rw))++ms.flatMap (meR vs qu):=rfl;rw [er] at e;generalize vs.map (fun v=>(⟨cfW vs [v] 1,mo⟩:Rw))=r0 at hrl0 e ⊢;clear er;refine Qm (Qz (Qy (Qx fun K hK=> ?_)));refine Qv J J J (Qj (hK _ _ (Qz (Qy (Qy ?_)))));clear hK K;refine Qx (fun K hK=> ?_);refine Qq J J J (Qh J J sMes.und (List.length_map ..) J (Qq J J J (Qj (hK _ _ (Qz (Q3 ?_))))));clear hK K
  refine YV 13 8 82 3 J J J ?_
  refine Qs (α:=Nat × Value) (fun q=>q.1≤ms.length∧q.2.oneCell' =true)
    (fun q=>[(3, .own 5),(10, .own 0),(13, .own 8),(53, .ct (mesC ms)),(54, .ct (intC ms.length)),(55, .ct (intC q.1))])
    (fun q=>(8, .row 82 3 (iks ((ms.take q.1).map fun m=>idOf m.1)))::(5, .box 32 (tiCs mo qu))::prB vs q.2 (r0++(ms.take q.1).flatMap (meR vs qu))) (fun q=>ms.length - q.1) (0,v) ⟨Nat.zero_le _,hv⟩
    (by rw [List.take_zero,List.flatMap_nil,List.append_nil];exact Qu J ⟨rfl,rfl,rfl,rfl,rfl,rfl,trivial⟩) ?_
  clear hv v
  rintro ⟨j,v⟩ ⟨hj,hv⟩
  dsimp only at hj hv ⊢;refine Qy (Qx fun K hK=> ?_);refine Qk ilss J J J J (Qj (hK _ _ (Qz (Qy ?_))));clear hK K;refine Q2 J (fun h5=> ?_) (fun h5=> ?_);rotate_left
  · have hj' :j=ms.length:=by omega
    rw [hj',List.take_length]
    refine St.frzX 1 0 1 _ J J J (rwsF_frozen 0 _) (fun _ h=>h.elim) ?_
    refine St.frz 8 _ J (iks_frozen _ _) (fun _ h=>h.elim) ?_
    refine Qm (Qz (Qy (Qx fun K hK=> ?_)));refine Qq J J J (Q0 J J J J (QJ J J J fPr1 J (QQ J J J J J lRws1 J (Qq J J J (Qv J J J (Qv J J J (Qv J J J (Qj (hK _ _ (Qz (Q4 ?_)))))))))));clear hK K;refine Q1 [_,_,_] rfl (QX J (QX J (QX J QZ))) (by rw [e];rfl) J
  have e2:(j:Int).toNat=j:=Int.toNat_natCast j
  have hmem:ms.getD j me0∈ms:=by rw [List.getD_eq_getElem?_getD,List.getElem?_eq_getElem (by omega)];exact List.getElem_mem _
  have hw:=hmw _ hmem;have ht:=hmt _ hmem
  have hs1:(ms.take (j+1)).map (fun m=>idOf m.1)=(ms.take j).map (fun m=>idOf m.1)++ [idOf (ms.getD j me0).1]:=by rw [takeS (z:=me0) (by omega),List.map_append];rfl
  have hs2:r0++(ms.take (j+1)).flatMap (meR vs qu)=(r0++(ms.take j).flatMap (meR vs qu))++ [⟨cfW vs (ms.getD j me0).2 1,(ms.getD j me0).1.bk - (ms.getD j me0).1.tm⟩]++ [⟨cfW vs (ms.getD j me0).2 (-1),qu - ((ms.getD j me0).1.bk - (ms.getD j me0).1.tm)⟩]:=by
    rw [takeS (z:=me0) (by omega),List.flatMap_append,←List.append_assoc,List.append_assoc _ [_] [_]]
    refine congrArg _ ?_
    rw [List.flatMap_cons,List.flatMap_nil,List.append_nil];rfl
  have hl1:((ms.take j).map (fun m=>idOf m.1)).length≤32:=by rw [List.length_map,List.length_take];omega
  have hl2:(r0++(ms.take j).flatMap (meR vs qu)).length≤100:=by
    have:∀q:List Me,(q.flatMap (meR vs qu)).length=2*q.length:=fun q=>by
      induction q with
      |nil=>rfl
      |cons m q ih=>rw [List.flatMap_cons,List.length_append,ih,List.length_cons];show 2+_=_;omega
    rw [List.length_append,this,List.length_take];omega
  generalize (ms.take j).map (fun m=>idOf m.1)=is at hs1 hl1 ⊢;generalize r0++(ms.take j).flatMap (meR vs qu)=rs at hs2 hl2 ⊢;refine QW (Qz (Qy (Q3 (Qy (Qx fun K hK=> ?_)))))
  refine Xx J J J sMes (by omega) (mes_at (by omega) (by omega)) J ?_
  rw [e2];generalize ms.getD j me0=m at hw ht hs1 hs2;obtain ⟨x,ws⟩:=m;dsimp only at hw ht hs1 hs2;refine Xc (n:=18) J J J lMe J J (Qf 7 J J zvMe J J J (Qa 18 J J J J J szMe J J (Qj (hK _ _ (Qz (Qy ?_))))));clear hK K;refine Qx (fun K hK=> ?_);refine QJ J J J fMe0 J (Z6 J J fS10 J (QQ J J J J J lInt J (QJ J J J fMe0 J (Z6 J J fS3 J (QQ J J J J J lInt J (Qk (isub (p:=x.bk) (q:=x.tm) (by omega) (by omega)) J J J J ?_))))));refine Qv J J J (Qj (hK _ _ (Qz (Qy ?_))));clear hK K;refine Qx (fun K hK=> ?_);refine Qq J J J (QJ J J J fMe1 J (QQ J J J J J lWrs1P J (Qq J J J (Ops.callAdd (As:=[.own 0, .ct (wrsC ws), .ct (intC 1), .ct (intC (x.bk - x.tm))]) [(7,_),(8,_),(5,_)] goadd (add_ok vs hvu (by omega) v hv rs (by omega) ws (by omega) 1 (x.bk - x.tm) (.inl J)) J J J (fun _ h=>h.elim) J J (fun p hp=>absurd hp (by simp)) (fun v2 hv2=> ?_)))));refine Qj (hK _ _ (Qz (Qy ?_)));clear hK K;refine Qx (fun K hK=> ?_);refine Qq J J J (QJ J J J fMe1 J (QQ J J J J J lWrs1P J (QJ J J J fTi1 J (QQ J J J J J lInt J (Qq J J J (Qk (isub (by omega) (by omega)) J J J J ?_))))))
  refine Ops.callAdd (As:=[.own 0, .ct (wrsC ws), .ct (intC (-1)), .ct (intC (qu - (x.bk - x.tm)))]) [(7,_),(8,_),(5,_)] goadd (add_ok vs hvu (by omega) v2 hv2 (rs++ [⟨cfW vs ws 1,x.bk - x.tm⟩]) (by rw [List.length_append,List.length_singleton];omega) ws (by omega) (-1) (qu - (x.bk - x.tm)) (.inr J)) J J J (fun _ h=>h.elim) J J (fun p hp=>absurd hp (by simp)) (fun v3 hv3=> ?_);refine Qj (hK _ _ (Qz ?_));clear hK K;refine Qx (fun K hK=> ?_);refine Qq J J J (QJ J J J fMe0 J (Yv (n:=17) J J J J (Nat.le_of_ble_eq_true J) lRes J (QV goIdentity (Identity_ok x) J J J J (Zo (n:=3) J J sIks J J (by decide) J ?_))))
  refine Qt is.length (iks (is++ [idOf x])) J J J J sIks (iks_len _) J (by omega) (by omega) (iks_snoc _ _) J ?_
  refine Qv J J J (Qj (hK _ _ (Qz ?_)));clear hK K;refine Qx (fun K hK=> ?_)
  refine Qk (iadd (by omega) (by omega)) J J J J ?_
  refine Qq J J J (Qj (hK _ _ (Q6 ?_)));clear hK K;refine Xq 7 (Q9 (j+1,v3) (by dsimp only;omega) ⟨by dsimp only;omega,hv3⟩ (by rw [hs1,hs2];exact Qu J ⟨rfl,rfl,rfl,rfl,rfl,by simp only [Int.natCast_add];rfl,trivial⟩))
abbrev ivCs (p : Int × Int) : List CT := [intC p.1, intC p.2]
abbrev ivC (p : Int × Int) : CT := .fr (aggT (ivCs p))
theorem lIv:LdN Tryz.prog 39 2:=LdN.of _ Tryz.underlying39 rfl (by kernel_rfl)
theorem szIv:(Tryz.prog.info? 39).map (·.size)=some 2:=by kernel_rfl
theorem zvIv:(Tryz.prog.info? 39).map (·.zero)=some (some (.agg #[.int .i64 0, .int .i64 0])):=by kernel_rfl
theorem bIv:bInfo Tryz.prog 39=some (.agg #[.int .i64 0, .int .i64 0],[(0,some 1),(1,some 1)]):=by kernel_rfl
theorem fOu0:fldInfo Tryz.prog 100 0=some (0,some 1):=by kernel_rfl
theorem fOu1:fldInfo Tryz.prog 100 1=some (1,some 3):=by kernel_rfl
theorem flV_bd(f:Fr): -4611686018427387904≤flV f∧flV f≤4611686018427387904:=by
  have h:=natAbs_sg f.neg (rnd f.num f.den f.neg);unfold flV
  split <;>omega
theorem Solve_any{n:Nat}{rs:List Rw}{c:List Int}(hv:validR n rs=true)(hc:okCoeffs n c=true):∃O:Oc,Sol n rs c O∧Ok Tryz.prog 81 [intC n,rowsC rs,intsC c] (.fr (tupT [ocC O,intC 0])):=by
  obtain ⟨N,e,hL⟩:=lpOf hv hc
  have e:n=N:=by omega
  subst e;obtain ⟨T,E,F,s,hR,hS⟩:=lp_sol hL;exact ⟨_,hS,Solve_ok n rs c hL hv hc hR⟩
structure OcF (O : Oc) : Prop where
  kind : O.kind = 1
  num : (limbs O.value.num).length ≤ 100
  den : (limbs O.value.den).length ≤ 100
  pos : 0 < O.value.den
theorem gobounds:InGo Tryz.prog 44:=InGo.of Tryz.func44 rfl (by decide)
set_option maxHeartbeats 16000000 in
theorem bounds_fine(n k:Nat)(hk:k<n)(hn:n≤16)(rs:List Rw)(O1 O2:Oc)(hS1:Ok Tryz.prog 81 [intC n,rowsC rs,intsC (unL n k (-1))] (.fr (tupT [ocC O1,intC 0])))(hS2:Ok Tryz.prog 81 [intC n,rowsC rs,intsC (unL n k 1)] (.fr (tupT [ocC O2,intC 0])))
    (z1:OcF O1) (z2:OcF O2) (hle: -flV O1.value≤flV O2.value):
    Ok Tryz.prog 44 [rowsC rs,intC n,intC k] (.fr (tupT [ocC O1,ocC O2,ivC (-flV O1.value,flV O2.value),intC 0])):=by
  have hU1:=unit_ok n k hk (by omega) (-1);have hU2:=unit_ok n k hk (by omega) 1;have hF1:=FFloor_any O1.value z1.num z1.pos z1.den;have hF2:=FFloor_any O2.value z2.num z2.pos z2.den;have hb1:=flV_bd O1.value;have hb2:=flV_bd O2.value;have k1:=z1.kind;have k2:=z2.kind;clear z1 z2;obtain ⟨q1,⟨g1,m1,d1⟩,o1,y1,u1⟩:=O1;obtain ⟨q2,⟨g2,m2,d2⟩,o2,y2,u2⟩:=O2;dsimp only at k1 k2 hF1 hF2 hb1 hb2 hle ⊢;subst k1;subst k2;generalize flV ⟨g1,m1,d1⟩=lo at hF1 hb1 hle ⊢;generalize flV ⟨g2,m2,d2⟩=hi at hF2 hb2 hle ⊢
  refine Ok.enter Tryz.func44 J _ Tryz.ntmps44 J ?_
  intro S w;refine Qy (Qx (fun K hK=> ?_));refine Qf 0 J J zvOut J J J (Qf 1 J J zvOut J J J (Qf 2 J J zvIv J J J (Qv J J J (Qj (hK _ _ (Qz (Qy ?_)))))));clear hK K;refine Qx (fun K hK=> ?_);refine Qq J J J (Qq J J J (Qq J J J (Qq J J J (QV gounit hU1 J J J J (QV goSolve hS1 J J J J (Qq J J J (QK J J J J (QK J J J J (Qa 7 J J J J J szOut J J (Qj (hK _ _ (Qz (Qy ?_)))))))))))));clear hK K;refine Qx (fun K hK=> ?_);refine Qq J J J (Qq J J J (Qq J J J (Qq J J J (QV gounit hU2 J J J J (QV goSolve hS2 J J J J (Qq J J J (QK J J J J (QK J J J J (Qa 7 J J J J J szOut J J (Qj (hK _ _ (Qz (Qy (Qy ?_))))))))))))));clear hK K;refine Qx (fun K hK=> ?_);refine QJ J J J fOu0 J (QQ J J J J J lInt J (Qk ineq J J J J (Qq J J J (Qi 35 J (fun g=>absurd J g) (fun _=> ?_)))));refine QJ J J J fOu0 J (QQ J J J J J lInt J (Qk ineq J J J J (Q7 J J J J (Qj (hK _ _ (Qz (Xy J (QW (Qz (Qy ?_))))))))));clear hK K;refine Qx (fun K hK=> ?_)
  refine QJ J J J fOu1 J (Yv (n:=3) J J J J (Nat.le_of_ble_eq_true J) lFrac J (QV goFFloor hF1 J J J J (Qq J J J (QK J J J J (QK J J J J (Qv J J J (Qv J J J (Qj (hK _ _ (Qz (Qy ?_)))))))))));clear hK K;refine Qx (fun K hK=> ?_);refine QJ J J J fOu1 J (Yv (n:=3) J J J J (Nat.le_of_ble_eq_true J) lFrac J (QV goFFloor hF2 J J J J (Qq J J J (QK J J J J (QK J J J J (Qv J J J (Qv J J J (Qj (hK _ _ (Qz (Qy (Qy ?_))))))))))));clear hK K;refine Qx (fun K hK=> ?_);refine Qq J J J (Ops.ineg J J (by omega) (by omega) J ?_);refine Qq J J J (Qk igtr J J J J (Qj (hK _ _ (Qz ?_))));clear hK K;refine Q2 J (fun g=>absurd g (by omega)) (fun _=> ?_);refine QW (Qz (Qy ?_));refine Yy mixed [6,7,8] (.p 2 (.p 3 (.p 4 (.p 5 (.f 0 (.m 1 (.a 6 (.a 7 (.a 8 (.p 9 .done) .non) .non) .non) (.a 6 (.f 1 (.a 7 (.a 8 (.p 9 .done) .non) .non)) .non))))))) (by kernel_rfl) (fun K hK=> ?_);refine Qr (Qq J J J (Qj (Qr (Ops.ineg J J (by omega) (by omega) J ?_))));refine Qj (Qr (Qq J J J (Qj (Qr (Qo J bIv J (.one J J J J (.one J J J J .nil)) J (Qj (Xp (Qc (n:=7) J J J J J lOut J (Qj (XW ?_ ?_))))))))))
  · refine Qc (n:=7) J J J J J lOut J (Qj (Qn ?_ Q8));refine Qa 7 J J J J J szOut J J (Qj (Qn ?_ Q8));refine Qa 7 J J J J J szOut J J (Qj (Qn ?_ Q8));refine Qa 2 J J J J J szIv J J (Qj (Qr (Qv J J J (Qj (Xv (hK _ _ ?_))))));refine Qz (Q4 ?_);refine Q1 [_,_,_,_] rfl (Qg (n:=7) J J lOut J (Qg (n:=7) J J lOut J (Qg (n:=2) J J lIv J (QX J QZ)))) J J
  refine Qn ?_ Q8
  refine Qa 7 J J J J J szOut J J (Qj (Xp (Qc (n:=7) J J J J J lOut J (Qj (Qn ?_ Q8)))));refine Qa 7 J J J J J szOut J J (Qj (Qn ?_ Q8));refine Qa 2 J J J J J szIv J J (Qj (Qr (Qv J J J (Qj (Xv (hK _ _ ?_))))));refine Qz (Q4 ?_);refine Q1 [_,_,_,_] rfl (Qg (n:=7) J J lOut J (Qg (n:=7) J J lOut J (Qg (n:=2) J J lIv J (QX J QZ)))) J J
theorem goends:InGo Tryz.prog 43:=InGo.of Tryz.func43 rfl (by decide)
set_option maxHeartbeats 8000000 in
theorem ends_fine(l:List Rs)(hl:l.length≤10000)(mo qu:Int)(w:Wr)(h0:(rwO l mo qu).2.2=0)(hw:w∈(vrO l).1)(hu:Up cmpW (vrO l).1)(hvl:(vrO l).1.length≤16){O1 O2:Oc}{p:Int × Int}(hB:Ok Tryz.prog 44 [rowsC (rwO l mo qu).1,intC (vrO l).1.length,intC (posD (vrO l).1 w)] (.fr (tupT [ocC O1,ocC O2,ivC p,intC 0]))):
    Ok Tryz.prog 43 [rssC l,tiC mo qu,wrC w] (.fr (tupT [ocC O1,ocC O2,ivC p,intC 0])):=by
  have hR:=DRows_ok l hl mo qu;have hV:=Variables_ok l hl;have hS:=BSearch_ok (vrO l).1 w hu (by omega);rw [decide_eq_true hw] at hS;rw [h0] at hR;generalize (rwO l mo qu).1=rs at hR hB;generalize (rwO l mo qu).2.1=is at hR;generalize (vrO l).2=ve at hV;generalize posD (vrO l).1 w=k at hS hB;generalize (vrO l).1=vs at hV hS hB;obtain ⟨q1,⟨g1,m1,d1⟩,o1,y1,u1⟩:=O1;obtain ⟨q2,⟨g2,m2,d2⟩,o2,y2,u2⟩:=O2
  refine Ok.enter Tryz.func43 J _ Tryz.ntmps43 J ?_
  intro S w0;refine Qy (Qx (fun K hK=> ?_));refine Xu 3 J J J J J J J (Xu 4 J J J J J J J (Qf 0 J J zvOut J J J (Qf 1 J J zvOut J J J (Qf 2 J J zvIv J J J (Qv J J J (Qj (hK _ _ (Qz (Qy ?_)))))))));clear hK K;refine Qx (fun K hK=> ?_);refine Qq J J J (Qc (n:=2) J J J J J lTi J (QV goDRows hR J J J J (Qq J J J (QK J J J J (QK J J J J (QK J J J J (Qv J J J (Qv J J J (Qv J J J (Qj (hK _ _ (Qz (Qy (Qy ?_))))))))))))));clear hK K;refine Qx (fun K hK=> ?_);refine Qq J J J (Qk ineq J J J J (Qj (hK _ _ (Qz (Xy J (QW (Qz (Qy ?_))))))));clear hK K;refine Qx (fun K hK=> ?_);refine Qq J J J (QV goVariables hV J J J J (Qq J J J (QK J J J J (QK J J J J (Qv J J J (Qv J J J (Qj (hK _ _ (Qz (Qy ?_))))))))));clear hK K;refine Qx (fun K hK=> ?_);refine Qq J J J (Qc (n:=2) J J J J J Zs J (QV goBSearch hS J J J J (Qq J J J (QK J J J J (QK J J J J (Qv J J J (Qv J J J (Qj (hK _ _ (Qz (Qy (Qy ?_))))))))))));clear hK K;refine Qx (fun K hK=> ?_);refine Qq J J J (Xz J J J (Qj (hK _ _ (Qz (Xy J (QW (Qz (Qy ?_))))))));clear hK K
  refine Qx (fun K hK=> ?_);refine Qq J J J (Qq J J J (Qh J J sWrs.und (List.length_map ..) J (Qq J J J (QV gobounds hB J J J J (QK J J J J (QK J J J J (QK J J J J (QK J J J J (Qa 7 J J J J J szOut J J (Qa 7 J J J J J szOut J J (Qa 2 J J J J J szIv J J (Qv J J J (Qj (hK _ _ (Qz (Q4 ?_))))))))))))))));clear hK K;refine Q1 [_,_,_,_] rfl (Qg (n:=7) J J lOut J (Qg (n:=7) J J lOut J (Qg (n:=2) J J lIv J (QX J QZ)))) J J
theorem goInterval:InGo Tryz.prog 13:=InGo.of Tryz.func13 rfl (by decide)
set_option maxHeartbeats 4000000 in
theorem Interval_fine(l:List Rs)(mo qu:Int)(w:Wr){O1 O2:Oc}{p:Int × Int}(hE:Ok Tryz.prog 43 [rssC l,tiC mo qu,wrC w] (.fr (tupT [ocC O1,ocC O2,ivC p,intC 0]))):
    Ok Tryz.prog 13 [rssC l,tiC mo qu,wrC w] (.fr (tupT [ivC p,intC 0])):=by
  obtain ⟨q1,⟨g1,m1,d1⟩,o1,y1,u1⟩:=O1;obtain ⟨q2,⟨g2,m2,d2⟩,o2,y2,u2⟩:=O2
  refine Ok.enter Tryz.func13 J _ Tryz.ntmps13 J ?_
  intro S w0;refine Qy (Qx (fun K hK=> ?_));refine Xu 3 J J J J J J J (Xu 4 J J J J J J J (Qf 0 J J zvIv J J J (Qv J J J (Qj (hK _ _ (Qz (Qy ?_)))))));clear hK K;refine Qx (fun K hK=> ?_);refine Qq J J J (Qc (n:=2) J J J J J lTi J (Qc (n:=2) J J J J J Zs J (QV goends hE J J J J (Qq J J J (QK J J J J (QK J J J J (QK J J J J (QK J J J J (Qf 5 J J zvOut J J J (Qf 6 J J zvOut J J J (Qf 7 J J zvIv J J J (Qa 7 J J J J J szOut J J (Qa 7 J J J J J szOut J J (Qa 2 J J J J J szIv J J (Qv J J J (Qj (hK _ _ (Qz (Qy ?_)))))))))))))))))));clear hK K;refine Qx (fun K hK=> ?_);refine Qc (n:=2) J J J J J lIv J (Qq J J J (Qa 2 J J J J J szIv J J (Qv J J J (Qj (hK _ _ (Qz (Q4 ?_)))))));clear hK K;refine Q1 [_,_] rfl (Qg (n:=2) J J lIv J (QX J QZ)) J J
end Go.Proofs.YtojkdfilabmafaaGreat
namespace Go.Proofs.YtojkdfilabmafaaGreat
open Go.Own Go.Limbs
section
variable {d : List Int} {mo qu : Int}
theorem posD_wks{n i:Nat}(hn:n≤16)(hi:i<n):posD (wks 1 n) (wk (1+(i:Int)))=i:=by
  have hm:wk (1+(i:Int))∈wks 1 n:=wks_mem.2 ⟨i,hi,rfl⟩;obtain ⟨h1,h2⟩:=(posD_at (wks_up (c:=n) (by omega))).1 hm;generalize posD (wks 1 n) (wk (1+(i:Int)))=k at h1 h2;rw [wks_len] at h1
  have e:(wks 1 n).getD k wr0=wk (1+(k:Int)):=by
    unfold wks;rw [List.getD_eq_getElem?_getD,List.getElem?_map,List.getElem?_range h1];rfl
  rw [e] at h2;exact wk_inj (by omega) (by omega) h2
theorem yF_rwO(hd:d.length≤16)(hT:∀T∈d,0≤T∧T≤1000000)(ht:tiB mo qu=true):∃is,rwO (yF 0 d) mo qu=(rowsY d mo qu,is,0):=by
  have hm:(msF (yF 0 d)).length=d.length:=by rw [yF_ms (by omega) hT,List.length_map,yF_len]
  have hv:=yF_vrO hd hT;unfold rwO;rw [hv];dsimp only;rw [if_neg (by rw [ht];decide),if_neg (fun h=>h J),if_neg (by rw [wks_len,hm];omega)];exact ⟨_,rfl⟩
theorem yF_rows_ok(hd:d.length≤16)(hT:∀T∈d,0≤T∧T≤1000000)(ht:tiB mo qu=true):validR (d.length:Int) (rowsY d mo qu)=true:=by
  have hm:(msF (yF 0 d)).length=d.length:=by rw [yF_ms (by omega) hT,List.length_map,yF_len]
  have h:=rowsD_valid (vs:=wks 1 d.length) (ms:=msF (yF 0 d)) (mo:=mo) (qu:=qu) (by rw [wks_len];omega) (by rw [wks_len,hm];omega) (fun m hmm=>⟨me_wires _ m hmm,(me_time _ m hmm).2⟩) ht;rw [wks_len] at h;exact h
theorem Interval_chain(hd:d.length≤16)(hT:∀T∈d,0≤T∧T≤1000000)(ht:tiB mo qu=true)(hG:Gap d mo qu){i:Nat}(hi:i<d.length):
    Ok Tryz.prog 13 [rssC (yF 0 d),tiC mo qu,wrC (wk (1+(i:Int)))] (.fr (tupT [ivC (loY d qu i,hiY d qu i),intC 0])):=by
  have hrv:=yF_rows_ok hd hT ht;have hrl:=rowsY_len (mo:=mo) (qu:=qu) hd hT;obtain ⟨is,hrw⟩:=yF_rwO hd hT ht;have hvr:=yF_vrO hd hT;obtain ⟨O1,s1,k1⟩:=Solve_any hrv (unL_ok hi (f:= -1) (.inr rfl));obtain ⟨O2,s2,k2⟩:=Solve_any hrv (unL_ok hi (f:=1) (.inl rfl));obtain ⟨a1,b1⟩:=lo_sol hd hT hG hi s1;obtain ⟨a2,b2⟩:=hi_sol hd hT hG hi s2;have l1:=sol_len s1 (by omega);have l2:=sol_len s2 (by omega)
  have tb:∀t,t≤d.length→0≤tmT d t∧tmT d t≤1000000:=fun t ht=>by
    cases t with
    |zero=>rw [tmT_zero];exact ⟨by decide,by decide⟩
    |succ t=>
      rw [tmT_succ];exact hT _ (by rw [List.getD_eq_getElem?_getD,List.getElem?_eq_getElem (by omega)];exact List.getElem_mem _)
  have ht2:0≤mo∧mo≤1073741824∧0≤qu∧qu≤1073741824:=of_decide_eq_true ht;have t1:=tb i (by omega);have t2:=tb (i+1) (by omega)
  have hlo: -2000000000≤loY d qu i∧loY d qu i≤2000000000:=by unfold loY;omega
  have hhi: -2000000000≤hiY d qu i∧hiY d qu i≤3000000000:=by unfold hiY;split <;>omega
  have hll:loY d qu i≤hiY d qu i:=by unfold loY hiY;split <;>omega
  have f1:=flV_btw b1 (by omega) (by omega);have f2:=flV_btw b2 (by omega) (by omega)
  have e1:flV O1.value= -loY d qu i:=by omega
  have e2:flV O2.value=hiY d qu i:=by omega
  have hB:=bounds_fine d.length i hi hd (rowsY d mo qu) O1 O2 k1 k2 ⟨a1,l1.1,l1.2.1,l1.2.2 a1⟩ ⟨a2,l2.1,l2.2.1,l2.2.2 a2⟩ (by omega);rw [e1,e2,Int.neg_neg] at hB;refine Interval_fine (yF 0 d) mo qu _ (O1:=O1) (O2:=O2) (ends_fine (yF 0 d) (by rw [yF_len];omega) mo qu _ (by rw [hrw]) (by rw [hvr];exact wks_mem.2 ⟨i,hi,rfl⟩) (by rw [hvr];exact wks_up (by omega)) (by rw [hvr];dsimp only;rw [wks_len];exact hd) ?_);rw [hrw,hvr];dsimp only;rw [wks_len,posD_wks hd hi];exact hB
end
attribute [local irreducible] Go.Own.Fin Ok OkB OkF OkL OkM OkN OkT Ops St
theorem goreply:InGo Tryz.prog 14:=InGo.of Tryz.func14 rfl (by decide)
set_option maxHeartbeats 4000000 in
theorem reply_ok(n t T:Int)(h1:0≤n∧n≤1000)(h2:0≤T∧T≤1000000):Ok Tryz.prog 14 [intC n,intC t,intC T,adrF (adN t)] (rsC (rpY n t T)):=by
  refine Ok.enter Tryz.func14 J _ Tryz.ntmps14 J ?_
  intro S w;refine Qy (Qx fun K hK=> ?_);refine Qf 0 J J zvRes J J J (Qj (hK _ _ (Qz (Qy ?_))));clear hK K;refine Qx (fun K hK=> ?_);refine Qq J J J (Qq J J J (Qk (imul (by omega) (by omega)) J J J J ?_));refine Qq J J J (Qq J J J (Qk (imul (by omega) (by omega)) J J J J ?_));refine Qq J J J (Qk (iadd (by omega) (by omega)) J J J J ?_);refine Qq J J J (Qo J bAns J (.one J J J J (.one J J J J .nil)) J (Qo J bRes J (.one J J J J (.one J J J J (.one J J J J (.one J J J J (.one J J J J (.one J J J J (.one J J J J (.agg J J J J .nil)))))))) J (Qa 17 J J J J J szRes J J (Qj (hK _ _ (Qz (Q4 ?_)))))));clear hK K;refine Q1 [_] rfl (Qg (n:=17) J J lRes J QZ) J J
theorem bTi:bInfo Tryz.prog 32=some (.agg #[.int .i64 0, .int .i64 0],[(0,some 1),(1,some 1)]):=by kernel_rfl
theorem szTi:(Tryz.prog.info? 32).map (·.size)=some 2:=by kernel_rfl
theorem zvTi:(Tryz.prog.info? 32).map (·.zero)=some (some (.agg #[.int .i64 0, .int .i64 0])):=by kernel_rfl
theorem eIv:EqS Tryz.prog 39 [.i64, .i64]:=⟨by kernel_rfl,by kernel_rfl,by kernel_rfl,by kernel_rfl⟩
section
variable {X : Ctx} {L : AL} {B : BL} {ops : Array Oper} {K : Act → World → Prop} {r : Pl} {k : Kd}
  {x y z : Operand} {d : Nat} {t t2 t' : TypeId} {pos : String} {af : Array Edge} {g : Option (Nat × Bool)}
theorem eqIvT(p:Int × Int)(hg:gd ops L g=some true)(hx:ev L x=some (.ct (.fr (aggT (ivCs p)))))(hy:ev L y=some (.ct (.fr (aggT (ivCs p)))))(hP:X.P=Tryz.prog)(hn:Nat.blt d X.n=true)
    (h:Ops X ops r ((d, .ct (boolC true))::L) B K):Ops X ops (.cons ⟨some d, .binOp .eql 39 x y t2,t',pos,af,g⟩ k r) L B K:=
  Ops.eqS (ks:=[.i64, .i64]) [p.1,p.2] [p.1,p.2] hg hx hy rfl rfl (hP▸eIv) hn (by rw [decide_eq_true rfl];exact h)
end
theorem goDAwake:InGo Tryz.prog 9:=InGo.of Tryz.func9 rfl (by decide)
set_option maxHeartbeats 8000000 in
theorem DAwake_ok:Ok Tryz.prog 9 [] (boolC true):=by
  have hr1:Ok Tryz.prog 14 [intC 0,intC 1,intC 10, .ex (.int .u32 1)] (rsC (rpY 0 1 10)):=reply_ok 0 1 10 (by decide) (by decide);have hr2:Ok Tryz.prog 14 [intC 1,intC 2,intC 25, .ex (.int .u32 2)] (rsC (rpY 1 2 25)):=reply_ok 1 2 25 (by decide) (by decide)
  have hT:∀T∈ [(10:Int),25],0≤T∧T≤1000000:=by decide
  have hti:tiB 100 2=true:=by decide
  have hG:Gap [(10:Int),25] 100 2:=⟨by decide,fun t ht=>by
    have:t=0∨t=1:=by have:t<2:=ht;omega
    rcases this with rfl|rfl <;>decide⟩
  have hI1:Ok Tryz.prog 13 [rssC (yF 0 [10,25]),tiC 100 2,wrC (0,1)] (.fr (tupT [ivC (8,10),intC 0])):=Interval_chain (d:=[10,25]) (by decide) hT hti hG (i:=0) (by decide);have hI2:Ok Tryz.prog 13 [rssC (yF 0 [10,25]),tiC 100 2,wrC (1,2)] (.fr (tupT [ivC (13,17),intC 0])):=Interval_chain (d:=[10,25]) (by decide) hT hti hG (i:=1) (by decide);have hV:=Variables_ok (yF 0 [10,25]) (by decide);rw [yF_vrO (d:=[10,25]) (by decide) hT] at hV;have hVl:(wks 1 [(10:Int),25].length).length=2:=wks_len 2;dsimp only at hV;generalize wks 1 [(10:Int),25].length=vs at hV hVl;have hD:=DValid_ok 100 2;rw [hti] at hD;have hl:CT.fr (sliceT 17 [rsCs (rpY 0 1 10),rsCs (rpY 1 2 25)])=rssC (yF 0 [10,25]):=rfl;rw [←hl] at hI1 hI2 hV
  refine Ok.enter Tryz.func9 J _ Tryz.ntmps9 J ?_
  intro S w;refine Qy (Qx fun K hK=> ?_);refine Qv J J J (Qj (hK _ _ (Qz (Qy ?_))));clear hK K;refine Qx (fun K hK=> ?_);refine QV goreply hr1 J J J J (QV goreply hr2 J J J J (Ops.lit (m:=2) (n:=17) (cs:=rsCs (rpY 0 1 10)++rsCs (rpY 1 2 25)) J J sRes (.agg J J J J (.agg J J J J .nil)) (by decide) J ?_));refine Qv J J J (Qj (hK _ _ (Qz (Qy ?_))));clear hK K;refine Qx (fun K hK=> ?_);refine Qo J bTi J (.one J J J J (.one J J J J .nil)) J (Qf 0 J J zvTi J J J (Qa 2 J J J J J szTi J J (Qj (hK _ _ (Qz (Qy ?_))))));clear hK K;refine Qx (fun K hK=> ?_);refine Qq J J J (Qc (n:=2) J J J J J lTi J (Qo J bWire J (.one J J J J .nil) J (QV goInterval hI1 J J J J (Qq J J J (QK J J J J (QK J J J J (Qf 1 J J zvIv J J J (Qa 2 J J J J J szIv J J (Qv J J J (Qj (hK _ _ (Qz (Qy ?_)))))))))))));clear hK K;refine Qx (fun K hK=> ?_);refine Qq J J J (Qc (n:=2) J J J J J lTi J (Qo J bWire J (.one J J J J (.one J J J J .nil)) J (QV goInterval hI2 J J J J (Qq J J J (QK J J J J (QK J J J J (Qf 2 J J zvIv J J J (Qa 2 J J J J J szIv J J (Qv J J J (Qj (hK _ _ (Qz (Qy ?_)))))))))))));clear hK K;refine Qx (fun K hK=> ?_)
  refine Qq J J J (QV goVariables hV J J J J (Qq J J J (QK J J J J (QK J J J J (Qv J J J (Qv J J J (Qj (hK _ _ (Qz (Qy ?_))))))))));clear hK K;refine Qx (fun K hK=> ?_);refine Qq J J J (Qk ieql J J J J (Qq J J J (Qc (n:=2) J J J J J lIv J (Qo J bIv J (.one J J J J (.one J J J J .nil)) J (eqIvT (8,10) J J J J J (Q5 J J J J (Qq J J J (Qq J J J (Qk ieql J J J J (Q5 J J J J (Qq J J J (Qc (n:=2) J J J J J lIv J (Qo J bIv J (.one J J J J (.one J J J J .nil)) J (eqIvT (13,17) J J J J J (Q5 J J J J (Qq J J J (Qq J J J (Qk ieql J J J J (Q5 J J J J (Qq J J J (Qq J J J (Qh J J sWrs.und (List.length_map ..) J (Qk ieql J J J J (Q5 J J J J (Qq J J J (Qi 57 J (fun _=> ?_) (fun g=>absurd (by show ((vs.length:Nat):Int)=2;omega) g)))))))))))))))))))))))))));refine Qc (n:=2) J J J J J lTi J (QV goDValid hD J J J J (Q5 J J J J (Qv J J J (Qj (hK _ _ (Qz (Q4 ?_)))))));clear hK K;refine Q1 [_] rfl (QX J QZ) J J
attribute [local irreducible] OkMv
def tmK (ws : List Wr) (ts : List Int) (w : Wr) : Nat → Int
  | 0 => 0
  | k + 1 => if ws.getD k wr0 = w then tmK ws ts w k + ts.getD k 0 else tmK ws ts w k
def prA (p : List Ad) : Nat → Ad
  | 0 => 0
  | i + 1 => p.getD i 0
def smK (ws : List Wr) (ts : List Int) (p : List Ad) : Nat → Int
  | 0 => 0
  | i + 1 => smK ws ts p i + tmK ws ts (prA p i, p.getD i 0) ws.length
def rpG (n t T : Int) (a : Ad) : Rs := ⟨0, 0, n, 100 * n, 9, 17, 0, t, true, false, 100 * n + T, a, 1, 0, 0, 0, 0⟩
def rpH (f n t T : Int) (a : Ad) : Rs := ⟨0, 0, n, 1000 * n, 9, 17, f, t, true, false, 1000 * n + T, a, 1, 0, 0, 0, 0⟩
theorem tmK_bd{ws:List Wr}{ts:List Int}(hts:∀x∈ts,0≤x∧x≤60)(w:Wr):∀k,0≤tmK ws ts w k∧tmK ws ts w k≤60*k
  |0=>⟨Int.le_refl _,Int.le_refl _⟩
  |k+1=>by
    have h:=tmK_bd (ws:=ws) hts w k
    have h2:0≤ts.getD k 0∧ts.getD k 0≤60:=by
      rw [List.getD_eq_getElem?_getD]
      cases e:ts[k]? with
      |none=>exact ⟨Int.le_refl _,by decide⟩
      |some x=>exact hts x (List.mem_of_getElem? e)
    unfold tmK
    split <;>omega
theorem smK_bd{ws:List Wr}{ts:List Int}(hts:∀x∈ts,0≤x∧x≤60)(hws:ws.length≤16)(p:List Ad):∀i,0≤smK ws ts p i∧smK ws ts p i≤960*i
  |0=>⟨Int.le_refl _,Int.le_refl _⟩
  |i+1=>by
    have h:=smK_bd hts hws p i
    have h2:=tmK_bd (ws:=ws) hts (prA p i,p.getD i 0) ws.length
    unfold smK
    omega
theorem lPCod:Ld1 Tryz.prog 29:=Ld1.of _ Tryz.underlying29 rfl
theorem zRess:(Tryz.prog.info? 24).map (·.size)=some 1:=by kernel_rfl
set_option maxHeartbeats 4000000 in
theorem replyG_ok(n t T:Int)(a:Ad)(h1:0≤n∧n≤1000)(h2:0≤T∧T≤1000000):Ok Tryz.prog 14 [intC n,intC t,intC T,adrF a] (rsC (rpG n t T a)):=by
  refine Ok.enter Tryz.func14 J _ Tryz.ntmps14 J ?_
  intro S w;refine Qy (Qx fun K hK=> ?_);refine Qf 0 J J zvRes J J J (Qj (hK _ _ (Qz (Qy ?_))));clear hK K;refine Qx (fun K hK=> ?_);refine Qq J J J (Qq J J J (Qk (imul (by omega) (by omega)) J J J J ?_));refine Qq J J J (Qq J J J (Qk (imul (by omega) (by omega)) J J J J ?_));refine Qq J J J (Qk (iadd (by omega) (by omega)) J J J J ?_);refine Qq J J J (Qo J bAns J (.one J J J J (.one J J J J .nil)) J (Qo J bRes J (.one J J J J (.one J J J J (.one J J J J (.one J J J J (.one J J J J (.one J J J J (.one J J J J (.agg J J J J .nil)))))))) J (Qa 17 J J J J J szRes J J (Qj (hK _ _ (Qz (Q4 ?_)))))));clear hK K;refine Q1 [_] rfl (Qg (n:=17) J J lRes J QZ) J J
abbrev trB (ps : List (List Ad)) (ws : List Wr) (ts : List Int) (vc : Value) (q : Int) (bs : List Int) (ho : Value) (out : List Rs) (c : Nat) : BL :=
  [(13, .box 94 [pthsC ps]), (10, .box 25 [wrsC ws]), (11, .box 26 [intsC ts]), (12, .box 24 [.ex ho]), (22, .rowx ho 47 17 (rss out)), (9, .box 29 [.ex vc]), (0, .box 98 (codes bs c)), (4, .box 3 [intC q])]
theorem gotruth1:InGo Tryz.prog 41:=InGo.of Tryz.func41 rfl (by decide)
set_option maxHeartbeats 16000000 in
set_option maxRecDepth 20000 in
theorem truth1_ok(bs:List Int)(hb:Bytes bs)(ps:List (List Ad))(ws:List Wr)(ts:List Int)(f t q:Int)(out:List Rs)(c0:Nat)(vc ho v13 v10 v11 v12 v9 v4:Value)
    (hf:0≤f∧f<ps.length) (hps:ps.length≤16) (hpl:(ps.getD f.toNat []).length≤16) (ht:1≤t∧t≤(ps.getD f.toNat []).length) (hws:ws.length=ts.length) (hwl:ws.length≤16)
    (hts:∀x∈ts,0≤x∧x≤60) (hq:0≤q∧q≤100) (hol:out.length≤100):
    OkMv Tryz.prog 41 [.ct (intC f), .ct (intC t), .own 13, .own 10, .own 11, .own 12, .own 9, .own 4] (trB ps ws ts vc q bs ho out c0) [(13,v13),(10,v10),(11,v11),(12,v12),(9,v9),(0,vc),(4,v4)]
      (fun x:Int × Nat × Value=>((0≤x.1∧x.1≤q)∧x.2.2.oneCell' =true)∧(x.1,x.2.1)=nxt bs c0 (q+1)) (fun _=> .ct (retC []))
      (fun x=>trB ps ws ts vc q bs x.2.2 (out++ [rpH f out.length t (smK ws ts (ps.getD f.toNat []) t.toNat+x.1) ((ps.getD f.toNat []).getD (t - 1).toNat 0)]) x.2.1):=by
  have hpA:=pths_at (ps:=ps) hf.1 hf.2;generalize hp:ps.getD f.toNat []=p at*;have hsB:=smK_bd hts hwl p;have htB:=tmK_bd (ws:=ws) hts
  refine OkMv.enter Tryz.func41 J _ Tryz.ntmps41 J (fun i hi=>by simp only [List.map_cons,List.map_nil,List.mem_cons,List.not_mem_nil,or_false] at hi;rcases hi with rfl|rfl|rfl|rfl|rfl|rfl|rfl <;>rfl) ?_
  intro S w ρ0 hbor hv;have e0:ρ0 0=vc:=hv (0,vc) (by simp);clear hv
  have htk:(p.take t.toNat).length=t.toNat:=by rw [List.length_take];omega
  refine Qy (Qx fun K hK=> ?_);refine Qv J J J (Qv J J J (Qj (hK _ _ (Qz (Qy (Qy ?_))))));clear hK K;refine Qx (fun K hK=> ?_);refine Zk J J J J J lPths J (Qq J J J (Xx J J J sPths (by omega) hpA J ?_));refine X1 J J J lAdrs J (Qq J J J (Ops.cutHi J J J sAdrs (by omega) (by rw [List.length_map];omega) J ?_));rw [←List.map_take];refine Qh J J sAdrs.und (List.length_map ..) J (Qq J J J (Qj (hK _ _ (Qz (Q3 ?_)))));clear hK K;rw [htk]
  refine Qs (α:=Nat) (fun i=>i≤t.toNat)
    (fun i=>[(0, .ct (intC f)),(1, .ct (intC t)),(2, .own 13),(3, .own 10),(4, .own 11),(5, .own 12),(6, .own 9),(7, .own 4),(10, .ct (intC (smK ws ts p i))),(11, .ct (adrF (prA p i))),(22, .ct (adrsC (p.take t.toNat))),(23, .ct (intC t.toNat)),(24, .ct (intC i))])
    (fun _=>trB ps ws ts vc q bs ho out c0) (fun i=>t.toNat - i) 0 (Nat.zero_le _) (by exact Qu J ⟨rfl,rfl,rfl,rfl,rfl,rfl,rfl,rfl,rfl,rfl,rfl,rfl,rfl,trivial⟩) ?_
  intro i hi;have hB:=hsB i
  try dsimp only at hi ⊢
  refine Qy (Qx fun K hK=> ?_);refine Qk ilss J J J J (Qj (hK _ _ (Qz (Qy ?_))));clear hK K;refine Q2 J (fun h=> ?_) (fun h=> ?_);rotate_left
  · have hi' :i=t.toNat:=by omega
    clear htk;subst hi';generalize smK ws ts p t.toNat=s at hB ⊢;refine Qm (Qz (Qy ?_))
    refine YJ (α:=Int × Nat) (fun x=>(0≤x.1∧x.1<q+1)∧x=nxt bs c0 (q+1)) (fun _=>[(0, .ct (intC f)),(5, .own 12),(16, .own 1)])
      (fun x=>(1, .box 47 (rsCs (rpG out.length t (s+x.1) (p.getD (t - 1).toNat 0))))::trB ps ws ts vc q bs ho out x.2) (fun x hx=> ?_) (fun KN hM=> ?_)
    rotate_left
    · refine Yy mixed [7,19] (.p 2 (.p 3 (.p 10 (.p 13 (.p 14 (.f 4 (.f 5 (.p 6 (.m 0 (.p 1 (.a 7 (.p 8 (.f 9 (.p 11 (.f 12 (.p 15 (.f 16 (.m 17 (.m 18 (.a 19 .done .non) .non) (.m 18 (.m 17 (.a 19 .done .non) .non) .non)))))))) (.m 9 (.p 11 (.a 7 (.p 8 (.f 12 (.p 15 (.f 16 (.m 17 (.m 18 (.a 19 .done .non) .non) (.m 18 (.m 17 (.a 19 .done .non) .non) .non)))))) (.m 12 (.p 15 (.a 7 (.p 8 (.f 16 (.m 17 (.m 18 (.a 19 .done .non) .non) (.m 18 (.m 17 (.a 19 .done .non) .non) .non)))) (.m 16 (.a 7 (.p 8 (.m 17 (.m 18 (.a 19 .done .non) .non) (.m 18 (.m 17 (.a 19 .done .non) .non) .non))) (.m 18 (.a 7 (.p 8 (.m 17 (.a 19 .done .non) .non)) .non) .non)) (.m 18 (.a 7 (.p 8 (.f 16 (.m 17 (.a 19 .done .non) .non))) (.m 16 (.a 7 (.p 8 (.m 17 (.a 19 .done .non) .non)) .non) .non)) .non)))) (.m 18 (.a 7 (.p 8 (.f 12 (.p 15 (.f 16 (.m 17 (.a 19 .done .non) .non))))) (.m 12 (.p 15 (.a 7 (.p 8 (.f 16 (.m 17 (.a 19 .done .non) .non))) (.m 16 (.a 7 (.p 8 (.m 17 (.a 19 .done .non) .non)) .non) .non))) .non)) .non)))) (.m 18 (.a 7 (.p 8 (.f 9 (.p 11 (.f 12 (.p 15 (.f 16 (.m 17 (.a 19 .done .non) .non))))))) (.m 9 (.p 11 (.a 7 (.p 8 (.f 12 (.p 15 (.f 16 (.m 17 (.a 19 .done .non) .non))))) (.m 12 (.p 15 (.a 7 (.p 8 (.f 16 (.m 17 (.a 19 .done .non) .non))) (.m 16 (.a 7 (.p 8 (.m 17 (.a 19 .done .non) .non)) .non) .non))) .non))) .non)) .non)))) (.a 7 (.p 8 (.f 0 (.p 1 (.f 9 (.p 11 (.f 12 (.p 15 (.f 16 (.m 17 (.m 18 (.a 19 .done .non) .non) (.m 18 (.m 17 (.a 19 .done .non) .non) .non)))))))))) (.m 9 (.p 11 (.m 0 (.p 1 (.a 7 (.p 8 (.f 12 (.p 15 (.f 16 (.m 17 (.m 18 (.a 19 .done .non) .non) (.m 18 (.m 17 (.a 19 .done .non) .non) .non)))))) (.m 12 (.p 15 (.a 7 (.p 8 (.f 16 (.m 17 (.m 18 (.a 19 .done .non) .non) (.m 18 (.m 17 (.a 19 .done .non) .non) .non)))) (.m 16 (.a 7 (.p 8 (.m 17 (.m 18 (.a 19 .done .non) .non) (.m 18 (.m 17 (.a 19 .done .non) .non) .non))) (.m 18 (.a 7 (.p 8 (.m 17 (.a 19 .done .non) .non)) .non) .non)) (.m 18 (.a 7 (.p 8 (.f 16 (.m 17 (.a 19 .done .non) .non))) (.m 16 (.a 7 (.p 8 (.m 17 (.a 19 .done .non) .non)) .non) .non)) .non)))) (.m 18 (.a 7 (.p 8 (.f 12 (.p 15 (.f 16 (.m 17 (.a 19 .done .non) .non))))) (.m 12 (.p 15 (.a 7 (.p 8 (.f 16 (.m 17 (.a 19 .done .non) .non))) (.m 16 (.a 7 (.p 8 (.m 17 (.a 19 .done .non) .non)) .non) .non))) .non)) .non)))) (.a 7 (.p 8 (.f 0 (.p 1 (.f 12 (.p 15 (.f 16 (.m 17 (.m 18 (.a 19 .done .non) .non) (.m 18 (.m 17 (.a 19 .done .non) .non) .non)))))))) (.m 12 (.p 15 (.m 0 (.p 1 (.a 7 (.p 8 (.f 16 (.m 17 (.m 18 (.a 19 .done .non) .non) (.m 18 (.m 17 (.a 19 .done .non) .non) .non)))) (.m 16 (.a 7 (.p 8 (.m 17 (.m 18 (.a 19 .done .non) .non) (.m 18 (.m 17 (.a 19 .done .non) .non) .non))) (.m 18 (.a 7 (.p 8 (.m 17 (.a 19 .done .non) .non)) .non) .non)) (.m 18 (.a 7 (.p 8 (.f 16 (.m 17 (.a 19 .done .non) .non))) (.m 16 (.a 7 (.p 8 (.m 17 (.a 19 .done .non) .non)) .non) .non)) .non)))) (.a 7 (.p 8 (.f 0 (.p 1 (.f 16 (.m 17 (.m 18 (.a 19 .done .non) .non) (.m 18 (.m 17 (.a 19 .done .non) .non) .non)))))) (.m 16 (.m 0 (.p 1 (.a 7 (.p 8 (.m 17 (.m 18 (.a 19 .done .non) .non) (.m 18 (.m 17 (.a 19 .done .non) .non) .non))) (.m 18 (.a 7 (.p 8 (.m 17 (.a 19 .done .non) .non)) .non) .non))) (.a 7 (.p 8 (.f 0 (.p 1 (.m 17 (.m 18 (.a 19 .done .non) .non) (.m 18 (.m 17 (.a 19 .done .non) .non) .non))))) (.m 18 (.m 0 (.p 1 (.a 7 (.p 8 (.m 17 (.a 19 .done .non) .non)) .non)) (.a 7 (.p 8 (.f 0 (.p 1 (.m 17 (.a 19 .done .non) .non)))) .non)) .non))) (.m 18 (.m 0 (.p 1 (.a 7 (.p 8 (.f 16 (.m 17 (.a 19 .done .non) .non))) (.m 16 (.a 7 (.p 8 (.m 17 (.a 19 .done .non) .non)) .non) .non))) (.a 7 (.p 8 (.f 0 (.p 1 (.f 16 (.m 17 (.a 19 .done .non) .non))))) (.m 16 (.m 0 (.p 1 (.a 7 (.p 8 (.m 17 (.a 19 .done .non) .non)) .non)) (.a 7 (.p 8 (.f 0 (.p 1 (.m 17 (.a 19 .done .non) .non)))) .non)) .non))) .non))))) (.m 18 (.m 0 (.p 1 (.a 7 (.p 8 (.f 12 (.p 15 (.f 16 (.m 17 (.a 19 .done .non) .non))))) (.m 12 (.p 15 (.a 7 (.p 8 (.f 16 (.m 17 (.a 19 .done .non) .non))) (.m 16 (.a 7 (.p 8 (.m 17 (.a 19 .done .non) .non)) .non) .non))) .non))) (.a 7 (.p 8 (.f 0 (.p 1 (.f 12 (.p 15 (.f 16 (.m 17 (.a 19 .done .non) .non))))))) (.m 12 (.p 15 (.m 0 (.p 1 (.a 7 (.p 8 (.f 16 (.m 17 (.a 19 .done .non) .non))) (.m 16 (.a 7 (.p 8 (.m 17 (.a 19 .done .non) .non)) .non) .non))) (.a 7 (.p 8 (.f 0 (.p 1 (.f 16 (.m 17 (.a 19 .done .non) .non))))) (.m 16 (.m 0 (.p 1 (.a 7 (.p 8 (.m 17 (.a 19 .done .non) .non)) .non)) (.a 7 (.p 8 (.f 0 (.p 1 (.m 17 (.a 19 .done .non) .non)))) .non)) .non)))) .non))) .non))))) (.m 18 (.m 0 (.p 1 (.a 7 (.p 8 (.f 9 (.p 11 (.f 12 (.p 15 (.f 16 (.m 17 (.a 19 .done .non) .non))))))) (.m 9 (.p 11 (.a 7 (.p 8 (.f 12 (.p 15 (.f 16 (.m 17 (.a 19 .done .non) .non))))) (.m 12 (.p 15 (.a 7 (.p 8 (.f 16 (.m 17 (.a 19 .done .non) .non))) (.m 16 (.a 7 (.p 8 (.m 17 (.a 19 .done .non) .non)) .non) .non))) .non))) .non))) (.a 7 (.p 8 (.f 0 (.p 1 (.f 9 (.p 11 (.f 12 (.p 15 (.f 16 (.m 17 (.a 19 .done .non) .non))))))))) (.m 9 (.p 11 (.m 0 (.p 1 (.a 7 (.p 8 (.f 12 (.p 15 (.f 16 (.m 17 (.a 19 .done .non) .non))))) (.m 12 (.p 15 (.a 7 (.p 8 (.f 16 (.m 17 (.a 19 .done .non) .non))) (.m 16 (.a 7 (.p 8 (.m 17 (.a 19 .done .non) .non)) .non) .non))) .non))) (.a 7 (.p 8 (.f 0 (.p 1 (.f 12 (.p 15 (.f 16 (.m 17 (.a 19 .done .non) .non))))))) (.m 12 (.p 15 (.m 0 (.p 1 (.a 7 (.p 8 (.f 16 (.m 17 (.a 19 .done .non) .non))) (.m 16 (.a 7 (.p 8 (.m 17 (.a 19 .done .non) .non)) .non) .non))) (.a 7 (.p 8 (.f 0 (.p 1 (.f 16 (.m 17 (.a 19 .done .non) .non))))) (.m 16 (.m 0 (.p 1 (.a 7 (.p 8 (.m 17 (.a 19 .done .non) .non)) .non)) (.a 7 (.p 8 (.f 0 (.p 1 (.m 17 (.a 19 .done .non) .non)))) .non)) .non)))) .non)))) .non))) .non)))))))))))) (by kernel_rfl) (fun K hK=> ?_)
      repeat' (first
        |refine Q8
        |refine Qr ?_
        |refine Xp ?_
        |refine XW ?_ ?_
        |refine Qn ?_ ?_
        |refine Qj ?_
        |refine Qq J J J ?_
        |refine Zk J J J J J (by with_reducible first|exact lRess|exact lPCod|exact lInt|exact lPths) J ?_
        |refine Qk (iadd (by omega) (by omega)) J J J J ?_
        |refine Qk (isub (by omega) (by omega)) J J J J ?_
        |refine Xx J J J sPths (by omega) hpA J ?_
        |refine Xx J J J sAdrs (by omega) (adrs_at (by omega) (by omega)) J ?_
        |refine X1 J J J (by with_reducible first|exact lAdrs|exact lAddr) J ?_
        |refine Qf 1 J J zvRes J J J ?_
        |refine Qa 17 J J J J J szRes J J ?_
        |refine Ops.linkX 49 22 J J (Ops.lenX _ J J J (by decide) (rss_len _) sRes.und J ?_)
        |(refine Zd 53 0 J J e0 (Ops.callB goNext (NextD_ok bs c0 (q+1) (by omega) (by omega) hb) J J J J J (fun z hz=> ?_))
          obtain ⟨u,c1⟩:=z
          dsimp only at hz ⊢)
        |refine QV goreply (replyG_ok out.length t _ _ (by omega) (by omega)) J J J J ?_
        |(refine Xv (hK _ _ ?_)
          exact Xk hM (u,c1) hz (Qu J ⟨rfl,rfl,rfl,trivial⟩)))
    obtain ⟨u,c1⟩:=x;dsimp only at hx ⊢;clear hsB htB;generalize p.getD (t - 1).toNat 0=a
    have eH:rpH f out.length t (s+u) a=⟨0,0,out.length,1000*out.length,9,17,f,t,true,false,1000*out.length+(100*out.length+(s+u)) - 100*out.length,a,1,0,0,0,0⟩:=by
      unfold rpH;rw [show (1000*(out.length:Int)+(100*out.length+(s+u)) - 100*out.length)=1000*out.length+(s+u) by omega]
    refine Qy ?_
    refine YJ (α:=Unit) (fun _=>True) (fun _=>[(5, .own 12),(16, .own 1)])
      (fun _=>(1, .box 47 (rsCs (rpH f out.length t (s+u) a)))::trB ps ws ts vc q bs ho out c1) (fun _ _=> ?_) (fun KN hM=> ?_)
    rotate_left
    · rw [eH] at hM;refine Yy mixed [14,16,18] (.p 6 (.p 9 (.p 12 (.f 0 (.p 1 (.p 2 (.f 7 (.f 10 (.p 13 (.m 3 (.p 4 (.p 5 (.p 8 (.p 11 (.a 14 (.p 15 (.a 16 (.p 17 (.a 18 .done .non)) .non)) .non))))) (.a 14 (.f 3 (.p 4 (.p 5 (.p 8 (.p 11 (.p 15 (.a 16 (.p 17 (.a 18 .done .non)) .non))))))) .non))))))))))) (by kernel_rfl) (fun K hK=> ?_)
      repeat' (first
        |refine Q8
        |refine Qr ?_
        |refine Xp ?_
        |refine XW ?_ ?_
        |refine Qn ?_ ?_
        |refine Qj ?_
        |refine Qq J J J ?_
        |refine Zk J J J J J lRess J ?_
        |refine Ops.linkX 67 22 J J (Ops.lenX _ J J J (by decide) (rss_len _) sRes.und J ?_)
        |refine Ops.linkX 70 22 J J (Ops.lenX _ J J J (by decide) (rss_len _) sRes.und J ?_)
        |refine Qk (imul (by omega) (by omega)) J J J J ?_
        |refine Qk (iadd (by dsimp only [rpG];omega) (by dsimp only [rpG];omega)) J J J J ?_
        |refine Qk (isub (by dsimp only [rpG];omega) (by dsimp only [rpG];omega)) J J J J ?_
        |refine QJ J J J (by with_reducible first|exact fS10|exact fS3|exact fS6) J ?_
        |refine QQ J J J J J lInt J ?_
        |refine Xj J J J J J zInt (Nat.le_of_ble_eq_true J) ?_
        |(refine Xv (hK _ _ ?_)
          exact Xk hM () trivial (Qu J ⟨rfl,rfl,trivial⟩)))
    generalize hr:rpH f out.length t (s+u) a=rr;refine Qx (fun K hK=> ?_);refine Zk J J J J J lRess J (X4 83 22 J J (Qc (n:=17) J J J J J lRes J (Zo (n:=17) J J sRes J J (by decide) J ?_)))
    refine Qt out.length (rss (out++ [rr])) J J J J sRes (rss_len out) J (by omega) (by omega) (rss_snoc out rr) J ?_
    refine Ops.name 86 22 J J (fun v hv=> ?_);refine Ops.st1O J J J J hv zRess (Qj (hK _ _ ?_));clear hK K;refine Fin.endMC [1] (u,c1,v) [] rfl QZ J J (fun _=>by rw [←hr];rfl) ⟨⟨⟨hx.1.1,by omega⟩,hv⟩,hx.2⟩
  refine QW (Qz (Qy (Q3 (Qy (Qx fun K hK=> ?_)))))
  refine Xx J J J sAdrs (by omega) (adrs_at (by omega) (by omega)) J ?_
  have egi:(p.take t.toNat).getD i 0=p.getD i 0:=by
    rw [List.getD_eq_getElem?_getD,List.getD_eq_getElem?_getD,List.getElem?_take_of_lt (by omega)]
  rw [show (i:Int).toNat=i from rfl,egi];refine X1 J J J lAddr J (Qv J J J (Qj (hK _ _ (Qz (Qy (Qy ?_))))));clear hK K;refine Qx (fun K hK=> ?_);refine Zk J J J J J lWrs1 J (Qh J J sWrs.und (List.length_map ..) J (Qq J J J (Qj (hK _ _ (Qz (Q3 ?_))))));clear hK K;have e0k:tmK ws ts (prA p i,p.getD i 0) 0=0:=rfl;have eS:smK ws ts p (i+1)=smK ws ts p i+tmK ws ts (prA p i,p.getD i 0) ws.length:=rfl;have eP:prA p (i+1)=p.getD i 0:=rfl;have hT:=htB (prA p i,p.getD i 0)
  have hst:∀k,tmK ws ts (prA p i,p.getD i 0) (k+1)=if ws.getD k wr0=(prA p i,p.getD i 0) then tmK ws ts (prA p i,p.getD i 0) k+ts.getD k 0 else tmK ws ts (prA p i,p.getD i 0) k:=fun _=>rfl
  clear htB hsB egi hpA;generalize smK ws ts p i=s0 at hB eS;generalize prA p i=la at*;generalize p.getD i 0=a at*;generalize tmK ws ts (la,a)=tm at*
  refine Qs (α:=Nat) (fun k=>k≤ws.length)
    (fun k=>[(0, .ct (intC f)),(1, .ct (intC t)),(2, .own 13),(3, .own 10),(4, .own 11),(5, .own 12),(6, .own 9),(7, .own 4),(10, .ct (intC (s0+tm k))),(11, .ct (adrF la)),(13, .ct (adrF a)),(22, .ct (adrsC (p.take t.toNat))),(23, .ct (intC t.toNat)),(24, .ct (intC i)),(28, .ct (wrsC ws)),(29, .ct (intC ws.length)),(30, .ct (intC k))])
    (fun _=>trB ps ws ts vc q bs ho out c0) (fun k=>ws.length - k) 0 (Nat.zero_le _) (by rw [e0k,Int.add_zero];exact Qu J ⟨rfl,rfl,rfl,rfl,rfl,rfl,rfl,rfl,rfl,rfl,rfl,rfl,rfl,rfl,rfl,rfl,rfl,trivial⟩) ?_
  intro k hk;have hTk:=hT k;have hst:=hst k
  try dsimp only at hk ⊢
  refine Qy (Qx fun K hK=> ?_);refine Qk ilss J J J J (Qj (hK _ _ (Qz (Qy ?_))));clear hK K;refine Q2 J (fun g=> ?_) (fun g=> ?_);rotate_left
  · have hk' :k=ws.length:=by omega
    subst hk';refine Qm (Qz (Qx fun K hK=> ?_));refine Qq J J J (Qv J J J (Qj (hK _ _ (Qz ?_))));clear hK K;refine Qx (fun K hK=> ?_)
    refine Qk (iadd (by omega) (by omega)) J J J J ?_
    refine Qq J J J (Qj (hK _ _ (Q6 ?_)));clear hK K;refine Q9 (i+1) (by omega) (by omega) (by rw [eS,eP];exact Qu J ⟨rfl,rfl,rfl,rfl,rfl,rfl,rfl,rfl,rfl,rfl,rfl,rfl,by simp only [Int.natCast_add];rfl,trivial⟩)
  refine QW (Qz (Qy (Q3 (Qy (Qx fun K hK=> ?_)))));refine Qq J J J (Xx J J J sWrs (by omega) (wrs_at (by omega) (by omega)) J ?_);rw [show (k:Int).toNat=k from rfl];generalize ws.getD k wr0=x at hst;refine Xc (n:=2) J J J Zs J J (Qf 1 J J zvWire J J J (Qv J J J (Qa 2 J J J J J szWire J J (Qj (hK _ _ (Qz (Qy ?_)))))));clear hK K;refine Qx (fun K hK=> ?_);refine Qc (n:=2) J J J J J Zs J (Qq J J J (Qq J J J (Qo J bWire J (.one J J J J (.one J J J J .nil)) J (eqWr x (la,a) J J J J J (Qj (hK _ _ (Qz ?_)))))));clear hK K;refine Q2 J (fun g2=> ?_) (fun g2=> ?_)
  · rw [if_pos g2] at hst
    have hz:0≤ts.getD (k:Int).toNat 0∧ts.getD (k:Int).toNat 0≤60:=hts _ (by
      show ts.getD k 0∈ts
      rw [List.getD_eq_getElem?_getD,List.getElem?_eq_getElem (by omega)];exact List.getElem_mem _)
    have hst:tm (k+1)=tm k+ts.getD (k:Int).toNat 0:=hst;refine Qx (fun K hK=> ?_);refine Qq J J J (Zk J J J J J lInts J (Qq J J J (Xx J J J sInts (by omega) (Xs (by omega) (by omega)) J ?_)));refine X1 J J J lInt J (Qk (iadd (by omega) (by omega)) J J J J ?_);refine Qv J J J (Qj (hK _ _ (Qz ?_)));clear hK K;refine Qx (fun K hK=> ?_)
    refine Qk (iadd (by omega) (by omega)) J J J J ?_
    refine Qq J J J (Qj (hK _ _ (Q6 ?_)));clear hK K;refine Xq 1 (Q9 (k+1) (by omega) (by omega) (by rw [hst,←Int.add_assoc];exact Qu J ⟨rfl,rfl,rfl,rfl,rfl,rfl,rfl,rfl,rfl,rfl,rfl,rfl,rfl,rfl,rfl,rfl,by simp only [Int.natCast_add];rfl,trivial⟩))
  · rw [if_neg g2] at hst;refine QW (Qz (Qx fun K hK=> ?_))
    refine Qk (iadd (by omega) (by omega)) J J J J ?_
    refine Qq J J J (Qj (hK _ _ (Q6 ?_)));clear hK K;refine Xq 1 (Q9 (k+1) (by omega) (by omega) (by rw [hst];exact Qu J ⟨rfl,rfl,rfl,rfl,rfl,rfl,rfl,rfl,rfl,rfl,rfl,rfl,rfl,rfl,rfl,rfl,by simp only [Int.natCast_add];rfl,trivial⟩))
abbrev ptT : List (List Ad) := [[1, 2, 3, 4], [1, 5, 3, 6]]
def wiA (ws : List Wr) (p : List Ad) : Nat → List Wr
  | 0 => ws
  | i + 1 => if (prA p i, p.getD i 0) ∈ wiA ws p i then wiA ws p i else wiA ws p i ++ [(prA p i, p.getD i 0)]
def wiB : Nat → List Wr
  | 0 => []
  | f + 1 => wiA (wiB f) (ptT.getD f []) 4
def drT (bs : List Int) : Nat → List Int × Nat
  | 0 => ([], 0)
  | k + 1 => ((drT bs k).1 ++ [(nxt bs (drT bs k).2 60).1], (nxt bs (drT bs k).2 60).2)
theorem drT_snoc{bs ts:List Int}{c c1 k:Nat}{u:Int}(h:(ts,c)=drT bs k)(h2:(u,c1)=nxt bs c 60):(ts++ [u],c1)=drT bs (k+1):=by
  show _=((drT bs k).1++ [(nxt bs (drT bs k).2 60).1],(nxt bs (drT bs k).2 60).2);rw [←h];dsimp only;rw [←h2]
theorem wiA_len(ws:List Wr)(p:List Ad):∀i,(wiA ws p i).length≤ws.length+i
  |0=>Nat.le_refl _
  |i+1=>by
    have h:=wiA_len ws p i
    unfold wiA
    split
    · omega
    · rw [List.length_append];simp only [List.length_cons,List.length_nil];omega
theorem wiB_len:∀f,(wiB f).length≤4*f
  |0=>Nat.le_refl _
  |f+1=>by
    have h:=wiB_len f
    have h2:=wiA_len (wiB f) (ptT.getD f []) 4
    unfold wiB
    omega
theorem zvWrs:(Tryz.prog.info? 25).map (·.zero)=some (some (.slice none 0 0)):=by kernel_rfl
theorem zvInts:(Tryz.prog.info? 26).map (·.zero)=some (some (.slice none 0 0)):=by kernel_rfl
theorem zvRess:(Tryz.prog.info? 24).map (·.zero)=some (some (.slice none 0 0)):=by kernel_rfl
theorem zvPths:(Tryz.prog.info? 94).map (·.zero)=some (some (.slice none 0 0)):=by kernel_rfl
theorem zvPCod:(Tryz.prog.info? 29).map (·.zero)=some (some (.pointer none)):=by kernel_rfl
theorem szPCod:(Tryz.prog.info? 29).map (·.size)=some 1:=by kernel_rfl
theorem szWrs:(Tryz.prog.info? 25).map (·.size)=some 1:=by kernel_rfl
theorem szIntsT:(Tryz.prog.info? 26).map (·.size)=some 1:=by kernel_rfl
abbrev nilV : Value := .slice none 0 0
abbrev trE (q : Int) (bs : List Int) (vc : Value) (ws : List Wr) (ts : List Int) (h1 h2 : Value) (c : Nat) : BL :=
  [(21, .rowx h1 3 1 (ints ts)), (20, .rowx h2 37 2 (wrs ws)), (13, .box 94 [pthsC ptT]), (12, .box 24 [.ex nilV]), (11, .box 26 [.ex h1]), (10, .box 25 [.ex h2]), (9, .box 29 [.ex vc]), (0, .box 98 (codes bs c)), (4, .box 3 [intC q])]
set_option maxHeartbeats 16000000 in
set_option maxRecDepth 20000 in
theorem truth_begin(l:List Int)(hb:Bytes (l.take 400))(q more:Int)(S:BSet)(w:World)(ρ0:Nat→Value){Q:Exit→Act→World→Prop}
    (h:∀(ts:List Int) (c1:Nat) (vc h1 h2:Value),ts.length=(wiB 2).length→(∀x∈ts,0≤x∧x≤60)→(ts,c1)=drT (l.take 400) (wiB 2).length→vc.oneCell' =true→
      St ((lentM Tryz.prog 127 S w [] [] ρ0).pin 0 vc) [(2, .ct (intC more)),(4, .own 4),(9, .own 9),(10, .own 10),(11, .own 11),(12, .own 12),(13, .own 13)] (trE q (l.take 400) vc (wiB 2) ts h1 h2 c1)
        (seqR (seqR (seqR (seqR (seqR (seqR (seqR (bodyOf Tryz.f10)))))))) Q):
    St (lentM Tryz.prog 127 S w [] [] ρ0) (argS 0 [.ct (bytesC l), .ct (intC q), .ct (intC more)]) [] (bodyOf Tryz.f10) Q:=by
  refine Qy (Qx (fun K hK=> ?_));refine Ops.box1 4 J J J J J J J (Qv J J J (Qv J J J (Qv J J J (Qj (hK _ _ ?_)))));clear hK K;refine Qz (Qy (St.region (Qq J J J (Ops.callN 0 goRoll (Roll_ok l) J J J J J J (Qf 9 J J zvPCod J J J (Ops.pin 0 J (fun vc hvc=> ?_)))))));refine Ops.nameB 29 0 J J (Ops.st1O J J J J hvc szPCod (Qj (Qz (Qy (Qx fun K hK=> ?_)))));refine Qf 10 J J zvWrs J J J (Qj (hK _ _ (Qz (Qy ?_))));clear hK K;refine Qx (fun K hK=> ?_);refine Qf 11 J J zvInts J J J (Qj (hK _ _ (Qz (Qy ?_))));clear hK K;refine Qx (fun K hK=> ?_);refine Qf 12 J J zvRess J J J (Qj (hK _ _ (Qz (Qy ?_))));clear hK K;refine Qx (fun K hK=> ?_)
  refine Ops.lit (m:=4) (n:=1) (cs:=adrs [1,2,3,4]) J J sAdrs (.one J J J J (.one J J J J (.one J J J J (.one J J J J .nil)))) (by decide) J ?_
  refine Ops.lit (m:=4) (n:=1) (cs:=adrs [1,5,3,6]) J J sAdrs (.one J J J J (.one J J J J (.one J J J J (.one J J J J .nil)))) (by decide) J ?_
  refine Ops.lit (m:=2) (n:=1) (cs:=pths ptT) J J sPths (.one J J J J (.one J J J J .nil)) (by decide) J ?_
  refine Qf 13 J J zvPths J J J (Ops.st1O J J J J J zPths (Qj (hK _ _ ?_)));clear hK K;refine Qz (St.nilX 20 37 2 J J (St.nilX 21 3 1 J J (Qy ?_)))
  refine YJ (α:=List Int × Nat × Value × Value) (fun x=>x.1.length=(wiB 2).length∧(∀y∈x.1,0≤y∧y≤60)∧(x.1,x.2.1)=drT (l.take 400) (wiB 2).length)
    (fun _=>[(2, .ct (intC more)),(4, .own 4),(9, .own 9),(10, .own 10),(11, .own 11),(12, .own 12),(13, .own 13)])
    (fun x=>trE q (l.take 400) vc (wiB 2) x.1 x.2.2.1 x.2.2.2 x.2.1) (fun x hx=>h x.1 x.2.1 vc x.2.2.1 x.2.2.2 hx.1 hx.2.1 hx.2.2 hvc) (fun KN hM=> ?_)
  clear h;generalize l.take 400=bs at hb hM ⊢;refine Qy (Qx (fun K hK=> ?_));refine Zk J J J J J lPths J (Qh (m:=2) J J sPths.und J J (Qq J J J (Qj (hK _ _ (Qz (Q3 ?_))))));clear hK K
  refine Qs (α:=Nat × List Int × Nat × Value × Value) (fun x=>x.1≤2∧x.2.1.length=(wiB x.1).length∧(∀y∈x.2.1,0≤y∧y≤60)∧(x.2.1,x.2.2.1)=drT bs (wiB x.1).length)
    (fun x=>[(2, .ct (intC more)),(4, .own 4),(9, .own 9),(10, .own 10),(11, .own 11),(12, .own 12),(13, .own 13),(34, .ct (intC 2)),(35, .ct (intC x.1))])
    (fun x=>trE q bs vc (wiB x.1) x.2.1 x.2.2.2.1 x.2.2.2.2 x.2.2.1) (fun x=>2 - x.1) (0,[],0,nilV,nilV) ⟨Nat.zero_le _,rfl,(fun y hy=>by cases hy),rfl⟩ (by exact Qu J ⟨rfl,rfl,rfl,rfl,rfl,rfl,rfl,rfl,rfl,trivial⟩) ?_
  rintro ⟨f,ts,c,h1,h2⟩ ⟨hf,hl,hts,hdr⟩
  have hw:=wiB_len f
  try dsimp only at hf hl hts hdr ⊢
  refine Qy (Qx fun K hK=> ?_);refine Qk ilss J J J J (Qj (hK _ _ (Qz (Qy ?_))));clear hK K;refine Q2 J (fun g=> ?_) (fun g=> ?_);rotate_left
  · have hf' :f=2:=by omega
    subst hf';refine Qm (Zl (Zl (Fin.blockE ?_)));exact Xk hM (ts,c,h1,h2) ⟨hl,hts,hdr⟩ (Qu J ⟨rfl,rfl,rfl,rfl,rfl,rfl,rfl,trivial⟩)
  have hp4:(ptT.getD f []).length=4:=by
    have:f=0∨f=1:=by omega
    rcases this with rfl|rfl <;>rfl
  have hwf:wiB (f+1)=wiA (wiB f) (ptT.getD f []) 4:=rfl;have hpf:=pths_at (ps:=ptT) (j:=(f:Int)) (by omega) (by show (f:Int)<2;omega);rw [show (f:Int).toNat=f from rfl] at hpf;generalize ptT.getD f []=p at hp4 hwf hpf;generalize wiB f=wf at hw hwf hl hdr ⊢;refine QW (Qz (Qy (Q3 (Qy (Qx fun K hK=> ?_)))));refine Qq J J J (Qv J J J (Qj (hK _ _ (Qz (Qy ?_)))));clear hK K;refine Qx (fun K hK=> ?_);refine Qv J J J (Qj (hK _ _ (Qz (Qy ?_))));clear hK K;refine Qx (fun K hK=> ?_);refine Zk J J J J J lPths J (Qq J J J (Xx J J J sPths (by omega) hpf J ?_));refine X1 J J J lAdrs J (Qh J J sAdrs.und (List.length_map ..) J (Qq J J J (Qj (hK _ _ (Qz (Q3 ?_))))));clear hK K;clear hpf
  refine Qs (α:=Nat × List Int × Nat × Value × Value) (fun x=>x.1≤p.length∧x.2.1.length=(wiA wf p x.1).length∧(∀y∈x.2.1,0≤y∧y≤60)∧(x.2.1,x.2.2.1)=drT bs (wiA wf p x.1).length)
    (fun x=>[(2, .ct (intC more)),(4, .own 4),(9, .own 9),(10, .own 10),(11, .own 11),(12, .own 12),(13, .own 13),(34, .ct (intC 2)),(35, .ct (intC f)),(15, .ct (adrF (prA p x.1))),(41, .ct (adrsC p)),(42, .ct (intC p.length)),(43, .ct (intC x.1))])
    (fun x=>trE q bs vc (wiA wf p x.1) x.2.1 x.2.2.2.1 x.2.2.2.2 x.2.2.1) (fun x=>p.length - x.1) (0,ts,c,h1,h2) ⟨Nat.zero_le _,hl,hts,hdr⟩ (by exact Qu J ⟨rfl,rfl,rfl,rfl,rfl,rfl,rfl,rfl,rfl,rfl,rfl,rfl,rfl,trivial⟩) ?_
  clear hl hts hdr;clear ts c h1 h2
  rintro ⟨i,ts,c,h1,h2⟩ ⟨hi,hl,hts,hdr⟩
  have hwl:=wiA_len wf p i
  have hstp:wiA wf p (i+1)=if (prA p i,p.getD i 0)∈wiA wf p i then wiA wf p i else wiA wf p i++ [(prA p i,p.getD i 0)]:=rfl
  have eP:prA p (i+1)=p.getD i 0:=rfl
  try dsimp only at hi hl hts hdr ⊢
  generalize hWe:wiA wf p i=W at hwl hstp hl hdr ⊢;generalize prA p i=la at hstp ⊢;refine Qy (Qx fun K hK=> ?_);refine Qk ilss J J J J (Qj (hK _ _ (Qz (Qy ?_))));clear hK K;refine Q2 J (fun g2=> ?_) (fun g2=> ?_);rotate_left
  · have hi' :i=4:=by omega
    subst hi';refine Qm (Qz (Qx fun K hK=> ?_))
    refine Qk (iadd (by omega) (by omega)) J J J J ?_
    refine Qq J J J (Qj (hK _ _ (Q6 ?_)));clear hK K;refine Q9 (f+1,ts,c,h1,h2) (by show 2 - (f+1)<2 - f;omega) ⟨by show f+1≤2;omega,by show ts.length=(wiB (f+1)).length;rw [hwf,hWe];exact hl,hts,by show (ts,c)=drT bs (wiB (f+1)).length;rw [hwf,hWe];exact hdr⟩ (by dsimp only;rw [hwf,hWe];exact Qu J ⟨rfl,rfl,rfl,rfl,rfl,rfl,rfl,rfl,by simp only [Int.natCast_add];rfl,trivial⟩)
  refine QW (Qz (Qy (Q3 (Qy (Qx fun K hK=> ?_)))))
  refine Xx J J J sAdrs (by omega) (adrs_at (by omega) (by omega)) J ?_
  rw [show (i:Int).toNat=i from rfl];generalize p.getD i 0=a at hstp eP ⊢;refine X1 J J J lAddr J (Qv J J J (Qj (hK _ _ (Qz (Qy ?_)))));clear hK K;refine Qx (fun K hK=> ?_);refine Qv J J J (Qj (hK _ _ (Qz (Qy (Qy ?_)))));clear hK K;refine Qx (fun K hK=> ?_);refine Zk J J J J J lWrs1 J (Ops.linkX 47 20 J J (Ops.lenX _ J J J (by decide) (wrs_len _) sWrs.und J ?_));refine Qq J J J (Qj (hK _ _ (Qz (Q3 ?_))));clear hK K
  refine Qs (α:=Nat) (fun k=>k≤W.length)
    (fun k=>[(2, .ct (intC more)),(4, .own 4),(9, .own 9),(10, .own 10),(11, .own 11),(12, .own 12),(13, .own 13),(34, .ct (intC 2)),(35, .ct (intC f)),(15, .ct (adrF la)),(17, .ct (adrF a)),(18, .ct (boolC (decide ((la,a)∈W.take k)))),(41, .ct (adrsC p)),(42, .ct (intC p.length)),(43, .ct (intC i)),(47, .own 20),(48, .ct (intC W.length)),(49, .ct (intC k))])
    (fun _=>trE q bs vc W ts h1 h2 c) (fun k=>W.length - k) 0 (Nat.zero_le _) (by exact Qu J ⟨rfl,rfl,rfl,rfl,rfl,rfl,rfl,rfl,rfl,rfl,rfl,rfl,rfl,rfl,rfl,rfl,rfl,rfl,trivial⟩) ?_
  intro k hk
  try dsimp only at hk ⊢
  refine Qy (Qx fun K hK=> ?_);refine Qk ilss J J J J (Qj (hK _ _ (Qz (Qy ?_))));clear hK K;refine Q2 J (fun g3=> ?_) (fun g3=> ?_);rotate_left
  · have hk' :k=W.length:=by omega
    subst hk';rw [List.take_length];refine Qm (Qz (Qy (Qy (Qx fun K hK=> ?_))));refine Qq J J J (Xz J J J (Qj (hK _ _ (Qz ?_))));clear hK K
    refine YJ (α:=List Int × Nat × Value × Value) (fun x=>x.1.length=(wiA wf p (i+1)).length∧(∀y∈x.1,0≤y∧y≤60)∧(x.1,x.2.1)=drT bs (wiA wf p (i+1)).length)
      (fun _=>[(2, .ct (intC more)),(4, .own 4),(9, .own 9),(10, .own 10),(11, .own 11),(12, .own 12),(13, .own 13),(34, .ct (intC 2)),(35, .ct (intC f)),(17, .ct (adrF a)),(41, .ct (adrsC p)),(42, .ct (intC p.length)),(43, .ct (intC i))])
      (fun x=>trE q bs vc (wiA wf p (i+1)) x.1 x.2.2.1 x.2.2.2 x.2.1) (fun x hx=> ?_) (fun KN hM=> ?_)
    · obtain ⟨t1,c1,u1,u2⟩:=x;dsimp only at hx ⊢;refine Qx (fun K hK=> ?_);refine Qq J J J (Qv J J J (Qj (hK _ _ (Qz ?_))));clear hK K;refine Qx (fun K hK=> ?_)
      refine Qk (iadd (by omega) (by omega)) J J J J ?_
      refine Qq J J J (Qj (hK _ _ (Q6 ?_)));clear hK K;refine Q9 (i+1,t1,c1,u1,u2) (by show p.length - (i+1)<p.length - i;omega) ⟨by show i+1≤p.length;omega,hx.1,hx.2⟩ (by dsimp only;rw [eP];exact Qu J ⟨rfl,rfl,rfl,rfl,rfl,rfl,rfl,rfl,rfl,rfl,rfl,rfl,by simp only [Int.natCast_add];rfl,trivial⟩)
    by_cases hin:(la,a)∈W
    · rw [if_pos hin] at hstp;rw [hstp] at hM;rw [decide_eq_true hin];refine Xy J (QW ?_);exact Xk hM (ts,c,h1,h2) ⟨hl,hts,hdr⟩ (Qu J ⟨rfl,rfl,rfl,rfl,rfl,rfl,rfl,rfl,rfl,rfl,rfl,rfl,rfl,trivial⟩)
    rw [if_neg hin] at hstp;rw [hstp] at hM;rw [decide_eq_false hin];refine XZ J (Yy mixed [5,8,10,11,12] (.p 1 (.p 2 (.p 3 (.f 0 (.m 4 (.a 5 (.f 7 (.m 6 (.a 8 (.m 9 (.a 10 (.a 11 (.a 12 .done .non) .non) .non) .non) .non) (.a 8 (.f 6 (.m 9 (.a 10 (.a 11 (.a 12 .done .non) .non) .non) .non)) .non))) (.m 6 (.a 5 (.f 7 (.a 8 (.m 9 (.a 10 (.a 11 (.a 12 .done .non) .non) .non) .non) .non)) (.m 7 (.a 5 (.a 8 (.m 9 (.a 10 (.a 11 (.a 12 .done .non) .non) .non) .non) .non) .non) .non)) (.m 7 (.a 5 (.m 6 (.a 8 (.m 9 (.a 10 (.a 11 (.a 12 .done .non) .non) .non) .non) .non) (.a 8 (.f 6 (.m 9 (.a 10 (.a 11 (.a 12 .done .non) .non) .non) .non)) .non)) (.m 6 (.a 5 (.a 8 (.m 9 (.a 10 (.a 11 (.a 12 .done .non) .non) .non) .non) .non) .non) .non)) .non))) (.m 6 (.m 4 (.a 5 (.f 7 (.a 8 (.m 9 (.a 10 (.a 11 (.a 12 .done .non) .non) .non) .non) .non)) (.m 7 (.a 5 (.a 8 (.m 9 (.a 10 (.a 11 (.a 12 .done .non) .non) .non) .non) .non) .non) .non)) (.m 7 (.m 4 (.a 5 (.a 8 (.m 9 (.a 10 (.a 11 (.a 12 .done .non) .non) .non) .non) .non) .non) .non) .non)) (.m 7 (.m 4 (.a 5 (.m 6 (.a 8 (.m 9 (.a 10 (.a 11 (.a 12 .done .non) .non) .non) .non) .non) (.a 8 (.f 6 (.m 9 (.a 10 (.a 11 (.a 12 .done .non) .non) .non) .non)) .non)) (.m 6 (.a 5 (.a 8 (.m 9 (.a 10 (.a 11 (.a 12 .done .non) .non) .non) .non) .non) .non) .non)) (.m 6 (.m 4 (.a 5 (.a 8 (.m 9 (.a 10 (.a 11 (.a 12 .done .non) .non) .non) .non) .non) .non) .non) .non)) .non))))))) (by kernel_rfl) (fun K hK=> ?_))
    repeat' (first
      |refine Q8
      |refine Qr ?_
      |refine Xp ?_
      |refine XW ?_ ?_
      |refine Qn ?_ ?_
      |refine Qj ?_
      |refine Qq J J J ?_
      |refine Qo J bWire J (.one J J J J (.one J J J J .nil)) J ?_
      |refine Zk J J J J J (by with_reducible first|exact lWrs1|exact lPCod|exact lInts) J ?_
      |refine Zo (n:=2) J J sWrs J J (by decide) J ?_
      |refine X4 64 20 J J (Qt W.length (wrs (W++ [(la,a)])) J J J J sWrs (wrs_len W) J (by omega) (by omega) (wrs_snoc W (la,a)) J (Ops.name 69 20 J J (fun v2 hv2=> ?_)))
      |(refine Zd 71 0 J J J (Ops.callB goNext (NextD_ok bs c 60 (by decide) (by decide) hb) J J J J J (fun z hz=> ?_))
        obtain ⟨u,c1⟩:=z
        dsimp only at hz ⊢)
      |refine Xh J J sInts J J J ?_
      |refine X4 70 21 J J (Qt ts.length (ints (ts++ [u])) J J J J sInts (by rw [ints_length,Nat.mul_one]) J (by omega) (by omega) (ZU ts [u]) J (Ops.name 74 21 J J (fun v1 hv1=> ?_)))
      |refine Ops.st1O J J J J hv2 szWrs ?_
      |refine Ops.st1O J J J J hv1 szIntsT ?_
      |(refine Xv (hK _ _ ?_)
        exact Xk hM (ts++ [u],c1,v1,v2) ⟨by show (ts++ [u]).length=_;rw [List.length_append,List.length_append,hl];rfl,fun y hy=>by
          rcases List.mem_append.1 hy with hy|hy
          · exact hts y hy
          · rw [List.mem_singleton.1 hy];omega,by rw [List.length_append];exact drT_snoc hdr hz.2⟩ (Qu J ⟨rfl,rfl,rfl,rfl,rfl,rfl,rfl,rfl,rfl,rfl,rfl,rfl,rfl,trivial⟩)))
  have hms:decide ((la,a)∈W.take (k+1))=(decide ((la,a)∈W.take k)||decide (W.getD k wr0=(la,a))):=by
    have hk2:k<W.length:=by omega
    have e:W.take (k+1)=W.take k++ [W.getD k wr0]:=by
      rw [List.take_add_one,List.getElem?_eq_getElem hk2,List.getD_eq_getElem?_getD,List.getElem?_eq_getElem hk2];rfl
    rw [e,←Bool.decide_or];exact decide_eq_decide.2 (by rw [List.mem_append,List.mem_singleton,eq_comm (a:=W.getD k wr0)])
  refine QW (Qz (Qy (Q3 (Qy (Qx fun K hK=> ?_)))))
  refine Ops.idxX _ J J J (wrs_len _) J sWrs (by omega) (by omega) J ?_
  rw [show (k:Int).toNat=k from rfl]
  refine ldE wrCs wr0 wr_len J J J J J (by omega) Zs J ?_
  generalize W.getD k wr0=x at hms ⊢;refine Qf 1 J J zvWire J J J (Qa 2 J J J J J szWire J J ?_);generalize decide ((la,a)∈W.take k)=b at hms ⊢;refine Qj (hK _ _ (Qz ?_));clear hK K;refine Qx (fun K hK=> ?_);refine Qq J J J (Qq J J J (Xd 54 J (fun g4=> ?_) (fun g4=> ?_)))
  · rw [g4,Bool.true_or] at hms;refine Qw J J J (Qw J J J (Qw J J J (Qw J J J (Qw J J J (Q5 J J J J (Qv J J J (Qj (hK _ _ (Qz ?_)))))))));clear hK K;refine Qx (fun K hK=> ?_)
    refine Qk (iadd (by omega) (by omega)) J J J J ?_
    refine Qq J J J (Qj (hK _ _ (Q6 ?_)));clear hK K;refine Xq 1 (Q9 (k+1) (by omega) (by omega) (by rw [hms];exact Qu J ⟨rfl,rfl,rfl,rfl,rfl,rfl,rfl,rfl,rfl,rfl,rfl,rfl,rfl,rfl,rfl,rfl,rfl,by simp only [Int.natCast_add];rfl,trivial⟩))
  · rw [g4,Bool.false_or] at hms;refine Qc (n:=2) J J J J J Zs J (Qq J J J (Qq J J J (Qo J bWire J (.one J J J J (.one J J J J .nil)) J (eqWr x (la,a) J J J J J (Q7 J J J J (Qv J J J (Qj (hK _ _ (Qz ?_)))))))));clear hK K;refine Qx (fun K hK=> ?_)
    refine Qk (iadd (by omega) (by omega)) J J J J ?_
    refine Qq J J J (Qj (hK _ _ (Q6 ?_)));clear hK K;refine Xq 1 (Q9 (k+1) (by omega) (by omega) (by rw [hms];exact Qu J ⟨rfl,rfl,rfl,rfl,rfl,rfl,rfl,rfl,rfl,rfl,rfl,rfl,rfl,rfl,rfl,rfl,rfl,by simp only [Int.natCast_add];rfl,trivial⟩))
end Go.Proofs.YtojkdfilabmafaaGreat
namespace Go.Proofs.YtojkdfilabmafaaGreat
open Go.Own Go.Limbs
def TrP (ts : List Int) (q : Int) (M : Nat → Nat) (out : List Rs) : Prop :=
  (∀ i, i < out.length → ∃ (f t : Nat) (u : Int), f < 2 ∧ 1 ≤ t ∧ t ≤ M f ∧ (0 ≤ u ∧ u ≤ q) ∧ out.getD i rs0 = rpH f i t (smK (wiB 2) ts (ptT.getD f []) t + u) ((ptT.getD f []).getD (t - 1) 0)) ∧
  (∀ f, f < 2 → ∀ t : Nat, 1 ≤ t → t ≤ M f → ∃ r ∈ out, r.fl = f ∧ r.tt = t)
def upM (M : Nat → Nat) (f t : Nat) : Nat → Nat := fun g => if g = f then t else M g
theorem upM_self(M:Nat→Nat)(f t:Nat):upM M f t f=t:=if_pos rfl
theorem upM_ne{M:Nat→Nat}{f t g:Nat}(h:g≠f):upM M f t g=M g:=if_neg h
theorem TrP.nil(ts:List Int)(q:Int):TrP ts q (fun _=>0) []:=⟨fun _ h=>absurd h (Nat.not_lt_zero _),fun _ _ t h1 h2=>by have:t≤0:=h2;omega⟩
theorem getD_snocL{out:List Rs}{r:Rs}{i:Nat}(h:i<out.length):(out++ [r]).getD i rs0=out.getD i rs0:=by
  rw [List.getD_eq_getElem?_getD,List.getElem?_append_left h,←List.getD_eq_getElem?_getD]
theorem getD_snocR{out:List Rs}{r:Rs}:(out++ [r]).getD out.length rs0=r:=by
  rw [List.getD_eq_getElem?_getD,List.getElem?_append_right (Nat.le_refl _),Nat.sub_self];rfl
theorem TrP.add{ts:List Int}{q:Int}{M:Nat→Nat}{out:List Rs}(h:TrP ts q M out){f t:Nat}{u:Int}(hf:f<2)(h1:1≤t)(h2:t≤M f)(hu:0≤u∧u≤q):
    TrP ts q M (out++ [rpH f out.length t (smK (wiB 2) ts (ptT.getD f []) t+u) ((ptT.getD f []).getD (t - 1) 0)]):=by
  refine ⟨fun i hi=> ?_,fun g hg s hs1 hs2=> ?_⟩
  · rw [List.length_append] at hi;by_cases hc:i<out.length
    · rw [getD_snocL hc];exact h.1 i hc
    · have:i=out.length:=by simp only [List.length_cons,List.length_nil] at hi;omega
      subst this;rw [getD_snocR];exact ⟨f,t,u,hf,h1,h2,hu,rfl⟩
  · obtain ⟨r,hr,e⟩:=h.2 g hg s hs1 hs2;exact ⟨r,List.mem_append.2 (.inl hr),e⟩
theorem TrP.grow{ts:List Int}{q:Int}{M:Nat→Nat}{out:List Rs}(h:TrP ts q M out){f:Nat}{u:Int}(hf:f<2)(hu:0≤u∧u≤q):
    TrP ts q (upM M f (M f+1)) (out++ [rpH f out.length (M f+1:Nat) (smK (wiB 2) ts (ptT.getD f []) (M f+1)+u) ((ptT.getD f []).getD (M f) 0)]):=by
  refine ⟨fun i hi=> ?_,fun g hg s hs1 hs2=> ?_⟩
  · rw [List.length_append] at hi;by_cases hc:i<out.length
    · rw [getD_snocL hc];obtain ⟨g,t,v,a1,a2,a3,a4,a5⟩:=h.1 i hc;refine ⟨g,t,v,a1,a2,?_,a4,a5⟩;unfold upM;split
      · rename_i e;subst e;omega
      · exact a3
    · have:i=out.length:=by simp only [List.length_cons,List.length_nil] at hi;omega
      subst this;rw [getD_snocR];exact ⟨f,M f+1,u,hf,by omega,by rw [upM_self];omega,hu,rfl⟩
  · by_cases hc:g=f∧s=M f+1
    · obtain ⟨rfl,rfl⟩:=hc;exact ⟨_,List.mem_append.2 (.inr (List.mem_cons_self ..)),rfl,rfl⟩
    · have:s≤M g:=by
        unfold upM at hs2;split at hs2
        · rename_i e
          subst e
          have:s≠M g+1:=fun e=>hc ⟨rfl,e⟩
          omega
        · exact hs2
      obtain ⟨r,hr,e⟩:=h.2 g hg s hs1 this;exact ⟨r,List.mem_append.2 (.inl hr),e⟩
theorem TrP.le{ts:List Int}{q:Int}{M:Nat→Nat}{out:List Rs}(h:TrP ts q M out){i:Nat}(hi:i<out.length){f:Nat}(hf:(out.getD i rs0).fl=f):(out.getD i rs0).tt≤M f∧1≤(out.getD i rs0).tt:=by
  obtain ⟨g,t,u,a1,a2,a3,_,a5⟩:=h.1 i hi;rw [a5] at hf ⊢;have:(g:Int)=f:=hf
  have:g=f:=by omega
  subst this;exact ⟨by show (t:Int)≤M g;omega,by show (1:Int)≤t;omega⟩
abbrev TSt := Nat × Nat × (Nat → Nat) × List Rs × Nat
def rpT (ts : List Int) (f t n : Nat) (u : Int) : Rs := rpH f n t (smK (wiB 2) ts (ptT.getD f []) t + u) ((ptT.getD f []).getD (t - 1) 0)
def stT (bs ts : List Int) (q : Int) (x : TSt) : TSt :=
  if x.1 < 2 then
    if (x.2.1 : Int) ≤ 2 + (nxt bs x.2.2.2.2 3).1 then
      (x.1, x.2.1 + 1, upM x.2.2.1 x.1 x.2.1, x.2.2.2.1 ++ [rpT ts x.1 x.2.1 x.2.2.2.1.length (nxt bs (nxt bs x.2.2.2.2 3).2 (q + 1)).1], (nxt bs (nxt bs x.2.2.2.2 3).2 (q + 1)).2)
    else (x.1 + 1, 1, x.2.2.1, x.2.2.2.1, (nxt bs x.2.2.2.2 3).2)
  else x
def itT (bs ts : List Int) (q : Int) (c : Nat) : Nat → TSt
  | 0 => (0, 1, (fun _ => 0), [], c)
  | k + 1 => stT bs ts q (itT bs ts q c k)
theorem itT_add{bs ts:List Int}{q u v:Int}{c c1 c2 k f t a:Nat}{M:Nat→Nat}{out:List Rs}(h:(f,t,M,out,a)=itT bs ts q c k)(hf:f<2)(h1:(u,c1)=nxt bs a 3)(hu:(t:Int)≤2+u)(h2:(v,c2)=nxt bs c1 (q+1)):
    (f,t+1,upM M f t,out++ [rpT ts f t out.length v],c2)=itT bs ts q c (k+1):=by
  show _=stT bs ts q (itT bs ts q c k);rw [←h];unfold stT;dsimp only;rw [if_pos hf,←h1];dsimp only;rw [if_pos hu,←h2]
theorem itT_skip{bs ts:List Int}{q u:Int}{c c1 k f t a:Nat}{M:Nat→Nat}{out:List Rs}(h:(f,t,M,out,a)=itT bs ts q c k)(hf:f<2)(h1:(u,c1)=nxt bs a 3)(hu:¬(t:Int)≤2+u):
    (f+1,1,M,out,c1)=itT bs ts q c (k+1):=by
  show _=stT bs ts q (itT bs ts q c k);rw [←h];unfold stT;dsimp only;rw [if_pos hf,←h1];dsimp only;rw [if_neg hu]
theorem itT_end{bs ts:List Int}{q:Int}{c k:Nat}(h:(itT bs ts q c k).1=2):∀j,itT bs ts q c (k+j)=itT bs ts q c k
  |0=>rfl
  |j+1=>by
    show stT bs ts q (itT bs ts q c (k+j))=_
    rw [itT_end h j]
    unfold stT
    rw [if_neg (by omega)]
theorem itT_one{bs ts:List Int}{q:Int}{c k j:Nat}{x y:TSt}(h1:x=itT bs ts q c k)(h2:y=itT bs ts q c j)(e1:x.1=2)(e2:y.1=2):x=y:=by
  subst h1;subst h2;rcases Nat.le_total k j with h|h
  · have:=itT_end e1 (j - k);rw [show k+(j - k)=j by omega] at this;exact this.symm
  · have:=itT_end e2 (k - j);rw [show j+(k - j)=k by omega] at this;exact this
def moT (bs ts : List Int) (q : Int) (M : Nat → Nat) (x : List Rs × Nat) : List Rs × Nat :=
  let f := nxt bs x.2 2
  let t := nxt bs f.2 (M f.1.toNat)
  let u := nxt bs t.2 (q + 1)
  (x.1 ++ [rpT ts f.1.toNat (t.1.toNat + 1) x.1.length u.1], u.2)
def moI (bs ts : List Int) (q : Int) (M : Nat → Nat) (x : List Rs × Nat) : Nat → List Rs × Nat
  | 0 => x
  | k + 1 => moT bs ts q M (moI bs ts q M x k)
theorem moI_add{bs ts:List Int}{q u:Int}{M:Nat→Nat}{x:List Rs × Nat}{k f t a c1 c2 c3:Nat}{out:List Rs}(h:(out,a)=moI bs ts q M x k)(h1:((f:Int),c1)=nxt bs a 2)(h2:((t:Int),c2)=nxt bs c1 (M f))(h3:(u,c3)=nxt bs c2 (q+1)):
    (out++ [rpT ts f (t+1) out.length u],c3)=moI bs ts q M x (k+1):=by
  show _=moT bs ts q M (moI bs ts q M x k);rw [←h];unfold moT;dsimp only;rw [←h1];dsimp only;rw [Int.toNat_natCast,←h2];dsimp only;rw [Int.toNat_natCast,←h3]
theorem moI_pre(bs ts:List Int)(q:Int)(M:Nat→Nat)(x:List Rs × Nat)(k:Nat):∀j,∃e,(moI bs ts q M x (k+j)).1=(moI bs ts q M x k).1++e
  |0=>⟨[],(List.append_nil _).symm⟩
  |j+1=>by
    obtain ⟨e,he⟩:=moI_pre bs ts q M x k j
    exact ⟨e++ [_],by
      show (moT bs ts q M (moI bs ts q M x (k+j))).1=_
      unfold moT
      dsimp only
      rw [he,List.append_assoc]⟩
def TrD (bs : List Int) (q : Int) (m : Nat) (x : List Int × (Nat → Nat) × List Rs) : Prop :=
  ∃ (c1 k c2 : Nat) (o : List Rs), (x.1, c1) = drT bs (wiB 2).length ∧ (2, 1, x.2.1, o, c2) = itT bs x.1 q c1 k ∧ x.2.2 = (moI bs x.1 q x.2.1 (o, c2) m).1
theorem TrD.pre{bs:List Int}{q:Int}{m j:Nat}{x y:List Int × (Nat→Nat) × List Rs}(hx:TrD bs q (m+j) x)(hy:TrD bs q m y):y.1=x.1∧y.2.1=x.2.1∧∃e,x.2.2=y.2.2++e:=by
  obtain ⟨ts,M,out⟩:=x;obtain ⟨ts',M',out'⟩:=y;obtain ⟨c1,k,c2,o,a1,a2,a3⟩:=hx;obtain ⟨d1,k',d2,o',b1,b2,b3⟩:=hy;dsimp only at*;have e1:=b1.trans a1.symm
  injection e1 with e1 e2
  subst e1;subst e2;have e3:=itT_one b2 a2 J J
  injection e3 with _ e3
  injection e3 with _ e3
  injection e3 with e3 e4
  injection e4 with e4 e5
  subst e3;subst e4;subst e5;obtain ⟨e,he⟩:=moI_pre bs ts' q M' (o',d2) m j;exact ⟨rfl,rfl,e,by rw [a3,b3,he]⟩
end Go.Proofs.YtojkdfilabmafaaGreat
namespace Go.Own
open Go.RowKit
theorem St.bext{X:Ctx}{L:AL}{B B' :BL}{c:Code}{Q:Exit→Act→World→Prop}(hb:∀j,bget B' j=bget B j)(h:St X L B' c Q):St X L B c Q:=fun a ρ w hI=>h a ρ w (hI.bext hb)
end Go.Own
namespace Go.Proofs.YtojkdfilabmafaaGreat
open Go.Own Go.Limbs
noncomputable abbrev trX (S : BSet) (w : World) (ρ0 : Nat → Value) (vc v13 v10 v11 v12 v9 v4 : Value) : Ctx := (((((((lentM Tryz.prog 127 S w [] [] ρ0).pin 0 vc).pin 13 v13).pin 10 v10).pin 11 v11).pin 12 v12).pin 9 v9).pin 4 v4
def kpTr (j : Nat) : Bool := Nat.beq j 13 || Nat.beq j 10 || Nat.beq j 11 || Nat.beq j 12 || Nat.beq j 9 || Nat.beq j 0 || Nat.beq j 4
theorem kpTr_mem{v13 v10 v11 v12 v9 vc v4:Value}{j:Nat}(h:kpTr j=true):j∈ [(13,v13),(10,v10),(11,v11),(12,v12),(9,v9),(0,vc),(4,v4)].map (·.1):=by
  unfold kpTr at h;simp only [Bool.or_eq_true] at h;rcases h with (((((h|h)|h)|h)|h)|h)|h <;>(rw [Nat.eq_of_beq_eq_true h];simp)
abbrev fvT : FuncId := 41
attribute [local irreducible] St Ops Go.Own.Fin Ok OkB OkN OkT OkL OkF OkM OkMv
section
variable {S : BSet} {w0 : World} {ρ0 : Nat → Value} {vc v13 v10 v11 v12 v9 v4 : Value} {L : AL} {ops : Array Oper} {K : Act → World → Prop} {r : Pl} {x : Operand} {d : Nat} {t' : TypeId} {pos : String} {af : Array Edge} {g : Option (Nat × Bool)}
theorem callTr{bs:List Int}{ts:List Int}{q:Int}{out:List Rs}{c0:Nat}{ho:Value}{args:List Operand}{tys:Array TypeId}(hb:Bytes bs)(hbor:∀gb,(lentM Tryz.prog 127 S w0 [] [] ρ0).bor gb→S gb)(f t:Nat)(hf:f<2)(ht:1≤t∧t≤4)(htl:ts.length=(wiB 2).length)
    (hts:∀y∈ts,0≤y∧y≤60) (hq:0≤q∧q≤100) (hol:out.length≤100)
    (hx:ev L x=some (.ct (.fr (closT fvT ([v13,v10,v11,v12,v9,v4].map CT.ex))))) (hg:gd ops L g=some true) (hargs:evS L args=some [.ct (intC f), .ct (intC t)]) (hn:Nat.blt d 127=true)
    (h:∀(u:Int) (c1:Nat) (v:Value),0≤u∧u≤q→v.oneCell' =true→(u,c1)=nxt bs c0 (q+1)→
      Ops (trX S w0 ρ0 vc v13 v10 v11 v12 v9 v4) ops r ((d, .ct (retC []))::keepL kpTr L) (trB ptT (wiB 2) ts vc q bs v (out++ [rpH f out.length t (smK (wiB 2) ts (ptT.getD f []) t+u) ((ptT.getD f []).getD (t - 1) 0)]) c1) K):
    Ops (trX S w0 ρ0 vc v13 v10 v11 v12 v9 v4) ops (.cons ⟨some d, .call {callee:= .value x,args:=args.toArray,argTypes:=tys},t',pos,af,g⟩ .any r) L (trB ptT (wiB 2) ts vc q bs ho out c0) K:=by
  have hw:=wiB_len 2
  have hp4:(ptT.getD f []).length=4:=by
    have:f=0∨f=1:=by omega
    rcases this with rfl|rfl <;>rfl
  have h1:=truth1_ok bs hb ptT (wiB 2) ts f t q out c0 vc ho v13 v10 v11 v12 v9 v4 ⟨by omega,by show (f:Int)<2;omega⟩ (by decide) (by show (ptT.getD f []).length≤16;omega) (by show 1≤(t:Int)∧(t:Int)≤((ptT.getD f []).length:Nat);omega) htl.symm (by omega) hts hq hol
  have e1:((t:Int) - 1).toNat=t - 1:=by omega
  rw [e1] at h1
  refine Ops.callCM (As:=[.ct (intC f), .ct (intC t)]) (cs:=[v13,v10,v11,v12,v9,v4]) [13,10,11,12,9,4] [] kpTr gotruth1 h1 hx J ?_ hg hargs hn hbor (fun j=>by rw [List.append_nil]) (fun j hj=>by cases hj) (fun j hj=> .inl (kpTr_mem hj)) ?_ (fun q j hj=>by rcases hj with hj|⟨o,hj⟩ <;>cases hj) (fun q hJ=> ?_)
  · intro p hp;simp only [List.mem_cons,List.not_mem_nil,or_false] at hp;rcases hp with rfl|rfl|rfl|rfl|rfl|rfl|rfl <;>rfl
  · intro p hp;simp only [List.mem_cons,List.not_mem_nil,or_false] at hp;right;rcases hp with rfl|rfl|rfl|rfl|rfl|rfl|rfl|hp
    any_goals (simp;done)
    cases hp
  · rw [List.append_nil];exact h q.1 q.2.1 q.2.2 hJ.1.1 hJ.1.2 hJ.2
end
theorem trB_ext{ts:List Int}{vc:Value}{q:Int}{bs:List Int}{c:Nat}:∀j,bget (trB ptT (wiB 2) ts vc q bs nilV [] c) j=
    bget [(22, .rowx nilV 47 17 []),(13, .box 94 [pthsC ptT]),(12, .box 24 [.ex nilV]),(11, .box 26 [intsC ts]),(10, .box 25 [wrsC (wiB 2)]),(9, .box 29 [.ex vc]),(0, .box 98 (codes bs c)),(4, .box 3 [intC q])] j:=by
  intro j;by_cases h1:j=13
  · subst h1;rfl
  by_cases h2:j=10
  · subst h2;rfl
  by_cases h3:j=11
  · subst h3;rfl
  by_cases h4:j=12
  · subst h4;rfl
  by_cases h5:j=22
  · subst h5;rfl
  by_cases h6:j=9
  · subst h6;rfl
  by_cases h7:j=0
  · subst h7;rfl
  by_cases h8:j=4
  · subst h8;rfl
  rw [QU _ _ (Ne.symm h1),QU _ _ (Ne.symm h2),QU _ _ (Ne.symm h3),QU _ _ (Ne.symm h4),QU _ _ (Ne.symm h5),QU _ _ (Ne.symm h6),QU _ _ (Ne.symm h7),QU _ _ (Ne.symm h8)];rw [QU _ _ (Ne.symm h5),QU _ _ (Ne.symm h1),QU _ _ (Ne.symm h4),QU _ _ (Ne.symm h3),QU _ _ (Ne.symm h2),QU _ _ (Ne.symm h6),QU _ _ (Ne.symm h7),QU _ _ (Ne.symm h8)]
end Go.Proofs.YtojkdfilabmafaaGreat
namespace Go.Proofs.YtojkdfilabmafaaGreat
open Go.Own Go.Limbs
attribute [local irreducible] St Ops Go.Own.Fin Ok OkB OkN OkT OkL OkF OkM OkMv
def TrJ (bs : List Int) (q : Int) (m : Nat) (x : List Int × (Nat → Nat) × List Rs) : Prop :=
  x.1.length = (wiB 2).length ∧ (∀ y ∈ x.1, 0 ≤ y ∧ y ≤ 60) ∧ (∀ f, f < 2 → 2 ≤ x.2.1 f ∧ x.2.1 f ≤ 4) ∧ TrP x.1 q x.2.1 x.2.2 ∧ x.2.2.length ≤ 13 ∧ TrD bs q m x
theorem gotruth:InGo Tryz.prog 10:=InGo.of Tryz.func10 rfl (by decide)
set_option maxHeartbeats 16000000 in
set_option maxRecDepth 20000 in
theorem truth_ok(l:List Int)(hb:Bytes (l.take 400))(q more:Int)(hq:0≤q∧q≤100)(hm:0≤more∧more≤5):
    OkM Tryz.prog 10 [.ct (bytesC l), .ct (intC q), .ct (intC more)] [] [] (TrJ (l.take 400) q more.toNat) (fun x=> .ct (.fr (tupT [rssC x.2.2,wrsC (wiB 2),intsC x.1]))) (fun _=>[]):=by
  refine OkM.enter Tryz.func10 J _ Tryz.ntmps10 J (fun i hi=>by cases hi) ?_
  intro S w ρ0 hbor;obtain ⟨m,rfl⟩:=Int.eq_ofNat_of_zero_le hm.1
  have hm5:m≤5:=by omega
  clear hm;rw [Int.toNat_natCast];generalize hmm:(m:Int)=more;refine truth_begin l hb q more S w ρ0 (fun ts c vc h1 h2 hl hts hdr hvc=> ?_);generalize l.take 400=bs at hb hdr ⊢
  refine St.frzX 20 10 0 _ J J J (wrs_frozen 0 _) (fun gb hgb=> .inl (hbor gb hgb)) ?_
  refine St.frzX 21 11 0 _ J J J (Zy 0 _) (fun gb hgb=> .inl (hbor gb hgb)) ?_
  refine St.nilX 22 47 17 J J (St.bext (B' :=trB ptT (wiB 2) ts vc q bs nilV [] c) trB_ext (St.pin 13 J (fun v13 _=> ?_)));refine St.pin 10 J (fun v10 _=> ?_);refine St.pin 11 J (fun v11 _=> ?_);refine St.pin 12 J (fun v12 _=> ?_);refine St.pin 9 J (fun v9 _=> ?_);refine St.pin 4 J (fun v4 _=> ?_);refine Qy (Qx (fun K hK=> ?_));refine Ops.nameB 13 13 J J (Ops.nameB 10 10 J J (Ops.nameB 11 11 J J (Ops.nameB 12 12 J J (Ops.nameB 9 9 J J (Ops.nameB 4 4 J J (Ops.makeFunc (cs:=[v13,v10,v11,v12,v9,v4].map CT.ex) J J J (Zd 13 13 J J J (Zd 10 10 J J J (Zd 11 11 J J J (Zd 12 12 J J J (Zd 9 9 J J J (Zd 4 4 J J J (Qv J J J (Qj (hK _ _ ?_)))))))))))))));clear hK K;refine Qz (Qy ?_)
  refine YJ (α:=(Nat→Nat) × List Rs × Nat × Value) (fun x=>(∀f,f<2→2≤x.1 f∧x.1 f≤4)∧TrP ts q x.1 x.2.1∧x.2.1.length≤8∧∃k,(2,1,x.1,x.2.1,x.2.2.1)=itT bs ts q c k)
    (fun _=>[(2, .ct (intC more)),(9, .own 9),(10, .own 10),(11, .own 11),(12, .own 12),(21, .ct (.fr (closT fvT ([v13,v10,v11,v12,v9,v4].map CT.ex))))])
    (fun x=>trB ptT (wiB 2) ts vc q bs x.2.2.2 x.2.1 x.2.2.1) (fun x hx=> ?_) (fun KN hM=> ?_)
  rotate_left
  · refine Qy (Qx (fun K hK=> ?_));refine Zk J J J J J lPths J (Qh (m:=2) J J sPths.und J J (Qq J J J (Qj (hK _ _ (Qz (Q3 ?_))))));clear hK K
    refine Qs (α:=Nat × (Nat→Nat) × List Rs × Nat × Value) (fun x=>x.1≤2∧(∀f,f<x.1→2≤x.2.1 f∧x.2.1 f≤4)∧(∀f,x.1≤f→x.2.1 f=0)∧TrP ts q x.2.1 x.2.2.1∧x.2.2.1.length≤4*x.1∧∃k,(x.1,1,x.2.1,x.2.2.1,x.2.2.2.1)=itT bs ts q c k)
      (fun x=>[(2, .ct (intC more)),(9, .own 9),(10, .own 10),(11, .own 11),(12, .own 12),(21, .ct (.fr (closT fvT ([v13,v10,v11,v12,v9,v4].map CT.ex)))),(80, .ct (intC 2)),(81, .ct (intC x.1))])
      (fun x=>trB ptT (wiB 2) ts vc q bs x.2.2.2.2 x.2.2.1 x.2.2.2.1) (fun x=>2 - x.1) (0,(fun _=>0),[],c,nilV) ⟨Nat.zero_le _,fun f hf=>absurd hf (Nat.not_lt_zero _),fun _ _=>rfl,TrP.nil _ _,Nat.zero_le _,0,rfl⟩ (by exact Qu J ⟨rfl,rfl,rfl,rfl,rfl,rfl,rfl,rfl,trivial⟩) ?_
    clear hdr;generalize c=c0 at hM ⊢;clear c
    rintro ⟨f,M,out,c,ho⟩ ⟨hf,hM1,hM2,hT,hol,k0,hk0⟩
    try dsimp only at hf hM1 hM2 hT hol hk0 ⊢
    refine Qy (Qx fun K hK=> ?_);refine Qk ilss J J J J (Qj (hK _ _ (Qz (Qy ?_))));clear hK K;refine Q2 J (fun g=> ?_) (fun g=> ?_);rotate_left
    · have hf' :f=2:=by omega
      subst hf';refine Qm (Zl (Zl (Fin.blockE ?_)));exact Xk hM (M,out,c,ho) ⟨hM1,hT,hol,k0,hk0⟩ (Qu J ⟨rfl,rfl,rfl,rfl,rfl,rfl,trivial⟩)
    refine QW (Qz (Qy (Q3 (Qy (Qx fun K hK=> ?_)))));refine Qq J J J (Qv J J J (Qj (hK _ _ (Qz (Qy ?_)))));clear hK K;refine Qx (fun K hK=> ?_);refine Qv J J J (Qj (hK _ _ (Qz (Q3 ?_))));clear hK K
    refine Qs (α:=Nat × (Nat→Nat) × List Rs × Nat × Value) (fun x=>(1≤x.1∧x.1≤5)∧(∀g,g<f→2≤x.2.1 g∧x.2.1 g≤4)∧(∀g,f<g→x.2.1 g=0)∧x.2.1 f+1=x.1∧TrP ts q x.2.1 x.2.2.1∧x.2.2.1.length+1≤4*f+x.1∧∃k,(f,x.1,x.2.1,x.2.2.1,x.2.2.2.1)=itT bs ts q c0 k)
      (fun x=>[(2, .ct (intC more)),(9, .own 9),(10, .own 10),(11, .own 11),(12, .own 12),(21, .ct (.fr (closT fvT ([v13,v10,v11,v12,v9,v4].map CT.ex)))),(80, .ct (intC 2)),(81, .ct (intC f)),(22, .ct (intC f)),(23, .ct (intC x.1))])
      (fun x=>trB ptT (wiB 2) ts vc q bs x.2.2.2.2 x.2.2.1 x.2.2.2.1) (fun x=>5 - x.1) (1,M,out,c,ho) ⟨⟨Nat.le_refl _,by show 1≤5;decide⟩,hM1,fun g hg=>hM2 g (by omega),by show M f+1=1;rw [hM2 f (Nat.le_refl _)],hT,by show out.length+1≤4*f+1;omega,k0,hk0⟩ (by exact Qu J ⟨rfl,rfl,rfl,rfl,rfl,rfl,rfl,rfl,rfl,rfl,trivial⟩) ?_
    clear hM1 hM2 hT hol hk0 k0;clear M out c ho
    rintro ⟨t,M,out,c,ho⟩ ⟨⟨ht1,ht5⟩,hM1,hM2,hMt,hT,hol,k0,hk0⟩
    try dsimp only at ht1 ht5 hM1 hM2 hMt hT hol hk0 ⊢
    refine Qy (Qy (Qx fun K hK=> ?_))
    refine Qq J J J ?_
    subst hMt;refine Zk J J J J J lPCod J (Zd 85 0 J J J (Ops.callB goNext (NextD_ok bs c 3 (by decide) (by decide) hb) J J J J J (fun z hz=> ?_)));obtain ⟨u,c1⟩:=z;dsimp only at hz ⊢
    refine Qk (iadd (by omega) (by omega)) J J J J ?_
    refine Qk ileq J J J J (Qj (hK _ _ (Qz ?_)));clear hK K;refine Q2 J (fun g2=> ?_) (fun g2=> ?_);rotate_left
    · refine Qm (Qz (Qx fun K hK=> ?_))
      refine Qk (iadd (by omega) (by omega)) J J J J ?_
      refine Qq J J J (Qj (hK _ _ (Q6 ?_)));clear hK K
      refine Q9 (f+1,M,out,c1,ho) (by show 2 - (f+1)<2 - f;omega) ⟨by show f+1≤2;omega,fun g' hg' =>by
        by_cases e:g' =f
        · subst e;show 2≤M g'∧M g'≤4;omega
        · exact hM1 g' (by have:g' <f+1:=hg';omega),fun g' hg' =>hM2 g' (by have:f+1≤g' :=hg';omega),hT,by show out.length≤4*(f+1);omega,k0+1,itT_skip hk0 (by omega) hz.2 g2⟩ (by exact Qu J ⟨rfl,rfl,rfl,rfl,rfl,rfl,rfl,by simp only [Int.natCast_add];rfl,trivial⟩)
    refine QW (Qz (Qy (Q3 (Qx fun K hK=> ?_))));refine Qq J J J (Qq J J J (Qq J J J (callTr hb hbor f (M f+1) (by omega) (by omega) hl hts hq (by omega) J J J J (fun u2 c2 v2 hu2 hv2 hd2=> ?_))));have hG:=hT.grow (f:=f) (by omega) hu2;refine Qj (hK _ _ (Qz ?_));clear hK K;refine Qx (fun K hK=> ?_);refine Qq J J J (Qk (iadd (by omega) (by omega)) J J J J ?_);refine Qv J J J (Qj (hK _ _ (Q6 ?_)));clear hK K
    refine Q9 (M f+1+1,upM M f (M f+1),_,c2,v2) (by show 5 - (M f+1+1)<5 - (M f+1);omega) ⟨⟨by show 1≤M f+1+1;omega,by show M f+1+1≤5;omega⟩,fun g' hg' =>by
      show 2≤upM M f (M f+1) g'∧upM M f (M f+1) g'≤4
      rw [upM_ne (by omega)];exact hM1 g' hg',fun g' hg' =>by
      show upM M f (M f+1) g' =0
      rw [upM_ne (by omega)];exact hM2 g' hg',by show upM M f (M f+1) f+1=M f+1+1;rw [upM_self],hG,by
      show (out++ [_]).length+1≤4*f+(M f+1+1)
      rw [List.length_append];simp only [List.length_cons,List.length_nil];omega,k0+1,itT_add hk0 (by omega) hz.2 g2 hd2⟩ (by exact Qu J ⟨rfl,rfl,rfl,rfl,rfl,rfl,rfl,rfl,rfl,by simp only [Int.natCast_add];rfl,trivial⟩)
  obtain ⟨M,out,c1,ho⟩:=x;obtain ⟨hM,hT,hol,k0,hk0⟩:=hx;dsimp only at hM hT hol hk0 ⊢;clear h1 h2;generalize ho0:(out,c1)=x0
  have hx0:(out,c1)=moI bs ts q M x0 (m - m):=by rw [Nat.sub_self];exact ho0
  have hfin:∀o,o=(moI bs ts q M x0 m).1→TrD bs q m (ts,M,o):=fun o h=>⟨c,k0,c1,out,hdr,hk0,by rw [ho0];exact h⟩
  clear hdr hk0 ho0;subst hmm;refine Qy (Q3 ?_)
  refine Qs (α:=Nat × List Rs × Nat × Value) (fun x=>x.1≤5∧TrP ts q M x.2.1∧x.2.1.length+x.1≤13∧x.1≤m∧(x.2.1,x.2.2.1)=moI bs ts q M x0 (m - x.1))
    (fun x=>[(2, .ct (intC x.1)),(9, .own 9),(10, .own 10),(11, .own 11),(12, .own 12),(21, .ct (.fr (closT fvT ([v13,v10,v11,v12,v9,v4].map CT.ex))))])
    (fun x=>trB ptT (wiB 2) ts vc q bs x.2.2.2 x.2.1 x.2.2.1) (fun x=>x.1) (m,out,c1,ho) ⟨hm5,hT,by show out.length+m≤13;omega,Nat.le_refl _,hx0⟩ (by exact Qu J ⟨rfl,rfl,rfl,rfl,rfl,rfl,trivial⟩) ?_
  clear hT hol hm5 hx0;generalize m=m0 at hfin ⊢;clear m out c1 ho c
  rintro ⟨m,out,c,ho⟩ ⟨hm5,hT,hol,hm0,hmo⟩
  try dsimp only at hm5 hT hol hm0 hmo ⊢
  refine Qy (Qy (Qx fun K hK=> ?_));refine Qq J J J (Qk igtr J J J J (Qj (hK _ _ (Qz ?_))));clear hK K;refine Q2 J (fun g=> ?_) (fun g=> ?_);rotate_left
  · refine Qm (Qz (Qy ?_))
    refine St.frzX 22 12 0 _ J J J (rss_frozen 0 _) (fun gb hgb=> .inl (hbor gb hgb)) ?_
    refine Yy mixed [] (.f 0 (.f 1 (.f 2 (.p 3 (.p 4 (.p 5 .done)))))) (by kernel_rfl) (fun K hK=> ?_)
    repeat' (first
      |refine Qr ?_
      |refine Xp ?_
      |refine Qj ?_
      |refine Zk J J J J J (by with_reducible first|exact lWrs1|exact lInts|exact lRess) J ?_
      |refine Qv J J J ?_
      |refine Xv (hK _ _ ?_))
    refine Qz (Q4 ?_);refine Fin.unpin (Fin.unpin (Fin.unpin (Fin.unpin (Fin.unpin (Fin.unpin (Fin.unpin ?_))))))
    refine Fin.retMC [13,12,11,10,9,0,4] (ts,M,out) [_,_,_] rfl (QX J (QX J (QX J QZ))) J J (fun _=>rfl) ⟨hl,hts,hM,hT,by show out.length≤13;omega,hfin out (by
      have e:m0 - m=m0:=by omega
      rw [e] at hmo
      exact congrArg Prod.fst hmo)⟩
  refine QW (Qz (Qy (Q3 (Qy (Qx fun K hK=> ?_)))));refine Zk J J J J J lPCod J (Zd 100 0 J J J (Ops.callB goNext (NextD_ok bs c 2 (by decide) (by decide) hb) J J J J J (fun z hz=> ?_)));obtain ⟨fi,c1⟩:=z;dsimp only at hz ⊢;obtain ⟨f,rfl⟩:=Int.eq_ofNat_of_zero_le hz.1.1
  have hf:f<2:=by omega
  refine Qv J J J (Qj (hK _ _ (Qz (Qy ?_))));clear hK K;refine Qx (fun K hK=> ?_);refine Qv J J J (Qj (hK _ _ (Qz (Qy (Qy ?_)))));clear hK K;refine Qx (fun K hK=> ?_);refine Zk J J J J J lRess J (Ops.linkX 102 22 J J (Ops.lenX _ J J J (by decide) (rss_len _) sRes.und J ?_));refine Qq J J J (Qj (hK _ _ (Qz (Q3 ?_))));clear hK K
  refine Qs (α:=Nat × Int) (fun x=>x.1≤out.length∧0≤x.2∧x.2≤M f∧∀i,i<x.1→(out.getD i rs0).fl=f→(out.getD i rs0).tt≤x.2)
    (fun x=>[(2, .ct (intC m)),(9, .own 9),(10, .own 10),(11, .own 11),(12, .own 12),(21, .ct (.fr (closT fvT ([v13,v10,v11,v12,v9,v4].map CT.ex)))),(24, .ct (intC f)),(25, .ct (intC x.2)),(102, .own 22),(103, .ct (intC out.length)),(104, .ct (intC x.1))])
    (fun x=>trB ptT (wiB 2) ts vc q bs ho out c1) (fun x=>out.length - x.1) (0,0) ⟨Nat.zero_le _,Int.le_refl _,by show (0:Int)≤M f;omega,fun i hi=>absurd hi (Nat.not_lt_zero _)⟩ (by exact Qu J ⟨rfl,rfl,rfl,rfl,rfl,rfl,rfl,rfl,rfl,rfl,rfl,trivial⟩) ?_
  rintro ⟨k,n⟩ ⟨hk,hn0,hnM,hmx⟩
  try dsimp only at hk hn0 hnM hmx ⊢
  have hM4:=hM f hf;refine Qy (Qx fun K hK=> ?_);refine Qk ilss J J J J (Qj (hK _ _ (Qz (Qy ?_))));clear hK K;refine Q2 J (fun g2=> ?_) (fun g2=> ?_);rotate_left
  · have hk' :k=out.length:=by omega
    have hn1:1≤n:=by
      obtain ⟨r,hr,e1,e2⟩:=hT.2 f hf 1 (Nat.le_refl _) (by omega);obtain ⟨i,hi,e⟩:=List.getElem_of_mem hr
      have ei:out.getD i rs0=r:=by rw [List.getD_eq_getElem?_getD,List.getElem?_eq_getElem hi];exact e
      have:=hmx i (by omega) (by rw [ei];exact e1);rw [ei,e2] at this;exact this
    have hnM' :n=M f:=by
      obtain ⟨r,hr,e1,e2⟩:=hT.2 f hf (M f) (by omega) (Nat.le_refl _);obtain ⟨i,hi,e⟩:=List.getElem_of_mem hr
      have ei:out.getD i rs0=r:=by rw [List.getD_eq_getElem?_getD,List.getElem?_eq_getElem hi];exact e
      have:=hmx i (by omega) (by rw [ei];exact e1);rw [ei,e2] at this;omega
    clear hmx;refine Qm (Qz (Qx fun K hK=> ?_));refine Qq J J J (Qq J J J (Zk J J J J J lPCod J (Qq J J J (Zd 119 0 J J J (Ops.callB goNext (NextD_ok bs c1 n hn1 (by omega) hb) J J J J J (fun z hz2=> ?_))))));obtain ⟨ti,c2⟩:=z;dsimp only at hz2 ⊢;obtain ⟨t,rfl⟩:=Int.eq_ofNat_of_zero_le hz2.1.1;have hdd:=hz2.2;rw [hnM'] at hdd
    refine Qk (iadd (by omega) (by omega)) J J J J ?_
    rw [show (1:Int)+t=((t+1:Nat):Int) by omega];refine callTr hb hbor f (t+1) hf (by omega) hl hts hq (by omega) J J J J (fun u2 c3 v2 hu2 hv2 hd2=> ?_);have hG:=hT.add (f:=f) (t:=t+1) hf (by omega) (by omega) hu2;refine Qj (hK _ _ (Qz ?_));clear hK K;refine Qx (fun K hK=> ?_);refine Qq J J J (Qk (isub (by omega) (by omega)) J J J J ?_);refine Qv J J J (Qj (hK _ _ (Q6 ?_)));clear hK K;rw [show (m:Int) - 1=((m - 1:Nat):Int) by omega]
    refine Q9 (m - 1,_,c3,v2) (by show m - 1<m;omega) ⟨by show m - 1≤5;omega,hG,by
      show (out++ [_]).length+(m - 1)≤13
      rw [List.length_append];simp only [List.length_cons,List.length_nil];omega,by show m - 1≤m0;omega,by
      have e:m0 - (m - 1)=m0 - m+1:=by omega
      rw [e]
      exact moI_add hmo hz.2 hdd hd2⟩ (by exact Qu J ⟨rfl,rfl,rfl,rfl,rfl,rfl,trivial⟩)
  have hle:=fun h=>hT.le (i:=k) (f:=f) (by omega) h
  have hmx' :∀n',n≤n'→((out.getD k rs0).fl=f→(out.getD k rs0).tt≤n')→∀i,i<k+1→(out.getD i rs0).fl=f→(out.getD i rs0).tt≤n' :=fun n' h1 h2 i hi he=>by
    by_cases e:i=k
    · subst e;exact h2 he
    · exact Int.le_trans (hmx i (by omega) he) h1
  refine QW (Qz (Qy (Q3 (Qy (Qx fun K hK=> ?_)))))
  refine Ops.idxX _ J J J (rss_len _) J sRes (by omega) (by omega) J ?_
  rw [show (k:Int).toNat=k from rfl]
  refine ldE rsCs rs0 rs_len J J J J J (by omega) lRes J ?_
  generalize out.getD k rs0=rr at hle hmx' ⊢;refine Qf 1 J J zvRes J J J (Qa 17 J J J J J szRes J J (Qj (hK _ _ (Qz (Qy ?_)))));clear hK K;refine Qx (fun K hK=> ?_);refine QJ J J J fS6 J (QQ J J J J J lInt J (Qq J J J (Qk ieql J J J J (Qj (hK _ _ (Qz ?_))))));clear hK K;refine Q2 J (fun g3=> ?_) (fun g3=> ?_)
  · refine Qx (fun K hK=> ?_);refine Qq J J J (QJ J J J fS7 J (QQ J J J J J lInt J (Ops.max2 J J J J (Qv J J J (Qj (hK _ _ (Qz ?_)))))));clear hK K;refine Qx (fun K hK=> ?_)
    refine Qk (iadd (by omega) (by omega)) J J J J ?_
    refine Qq J J J (Qj (hK _ _ (Q6 ?_)));clear hK K
    refine Xq 1 ?_
    refine Q9 (k+1,max n rr.tt) (by show out.length - (k+1)<out.length - k;omega) ⟨by show k+1≤out.length;omega,by show 0≤max n rr.tt;omega,by
      show max n rr.tt≤M f;have:=(hle g3).1
      omega,hmx' _ (by show n≤max n rr.tt;omega) (fun _=>by show rr.tt≤max n rr.tt;omega)⟩ (by exact Qu J ⟨rfl,rfl,rfl,rfl,rfl,rfl,rfl,rfl,rfl,rfl,by simp only [Int.natCast_add];rfl,trivial⟩)
  · refine QW (Qz (Qx fun K hK=> ?_))
    refine Qk (iadd (by omega) (by omega)) J J J J ?_
    refine Qq J J J (Qj (hK _ _ (Q6 ?_)));clear hK K;refine Xq 1 (Q9 (k+1,n) (by show out.length - (k+1)<out.length - k;omega) ⟨by show k+1≤out.length;omega,hn0,hnM,hmx' _ (Int.le_refl _) (fun h=>absurd h g3)⟩ (by exact Qu J ⟨rfl,rfl,rfl,rfl,rfl,rfl,rfl,rfl,rfl,rfl,by simp only [Int.natCast_add];rfl,trivial⟩))
end Go.Proofs.YtojkdfilabmafaaGreat
namespace Go.Proofs.YtojkdfilabmafaaGreat
open Go.Own Go.Limbs
structure Fan (a : Int → Int → Ad) (M : Int → Nat) (t0 : Tk) (l : List Rs) : Prop where
  up : Up cmpR l
  ok : ∀ r ∈ l, okR r = true ∧ r.db = false ∧ r.an = true ∧ r.ki = 1 ∧ trOf r = t0 ∧ 1 ≤ r.tt ∧ r.tt ≤ M r.fl ∧ r.fr = a r.fl r.tt
  all : ∀ r ∈ l, ∀ t : Int, 1 ≤ t → t ≤ M r.fl → ∃ x ∈ l, x.fl = r.fl ∧ x.tt = t
variable {a : Int → Int → Ad} {M : Int → Nat} {t0 : Tk} {l : List Rs}
abbrev stU (m : AdM × StM) (f t : Int) : Int := (look1 m.2 (f, t)).getD 0
def invU (a : Int → Int → Ad) (m : AdM × StM) : Prop := ∀ f t : Int, stU m f t ≤ 1 ∨ (stU m f t = 2 ∧ look1 m.1 (f, t) = some (a f t))
theorem look_fan:∀(q:List Rs) (m:AdM × StM),(∀r∈q,usR r=true∧r.an=true∧r.fr=a r.fl r.tt)→invU a m→
    invU a (q.foldl (lookS 0) m)∧∀f t,(stU m f t=2∨∃r∈q,r.fl=f∧r.tt=t)→stU (q.foldl (lookS 0) m) f t=2
  | [],m,_,hm=>⟨hm,fun f t h=>h.elim id fun ⟨_,h,_⟩=>by cases h⟩
  |r::q,m,hq,hm=>by
    obtain ⟨h1,ha,h4⟩:=hq r (List.mem_cons_self ..)
    have key:invU a (lookS 0 m r)∧∀f t,(stU m f t=2∨(r.fl=f∧r.tt=t))→stU (lookS 0 m r) f t=2:=by
      unfold lookS;rw [if_neg (by rw [h1];simp),ha,if_neg (by decide)];have hr:=hm r.fl r.tt;by_cases hs:(look1 m.2 (r.fl,r.tt)).getD 0≤1
      · rw [if_pos hs];refine ⟨fun f t=> ?_,fun f t h=> ?_⟩
        · simp only [stU,look1_ins];by_cases e:(f,t)=(r.fl,r.tt)
          · rw [if_pos e,if_pos e]
            injection e with e1 e2
            subst e1;subst e2;right;exact ⟨rfl,by rw [h4]⟩
          · rw [if_neg e,if_neg e];exact hm f t
        · simp only [stU,look1_ins];by_cases e:(f,t)=(r.fl,r.tt)
          · rw [if_pos e];rfl
          · rw [if_neg e];rcases h with h|⟨h,h'⟩
            · exact h
            · exact absurd (by rw [h,h']) e
      · rw [if_neg hs];rcases hr with hr|⟨hr,hr'⟩
        · exact absurd hr hs
        · rw [if_neg (by rw [hr',h4];simp)];refine ⟨hm,fun f t h=> ?_⟩;rcases h with h|⟨h,h'⟩
          · exact h
          · subst h;subst h';exact hr
    obtain ⟨k1,k2⟩:=key;obtain ⟨i1,i2⟩:=look_fan q (lookS 0 m r) (fun x hx=>hq x (List.mem_cons_of_mem _ hx)) k1;refine ⟨i1,fun f t h=>i2 f t ?_⟩;rcases h with h|⟨x,hx,h⟩
    · exact .inl (k2 f t (.inl h))
    · rcases List.mem_cons.1 hx with rfl|hx
      · exact .inl (k2 f t (.inr h))
      · exact .inr ⟨x,hx,h⟩
theorem Fan.us(h:Fan a M t0 l){r:Rs}(hr:r∈l):usR r=true:=by
  obtain ⟨h1,h2,_⟩:=h.ok r hr;unfold usR;rw [h1,h2];rfl
theorem Fan.fi(h:Fan a M t0 l):∀r∈l,fiR r=false:=fun r hr=>by
  obtain ⟨_,_,h1,h2,_⟩:=h.ok r hr
  unfold fiR
  rw [h1,h2];rfl
theorem Fan.look(h:Fan a M t0 l):lookG l=l.foldl (lookS 0) ([],[]):=by
  have h1:endF l=0:=endF_zero l 0 h.fi;unfold lookG;rw [h1]
def adF (a : Int → Int → Ad) (f : Int) : Nat → Int → List Ad
  | 0, _ => []
  | c + 1, t => a f t :: adF a f c (t + 1)
theorem adF_len(f:Int):∀(c:Nat) (t:Int),(adF a f c t).length=c
  |0,_=>rfl
  |c+1,t=>by show (adF a f c (t+1)).length+1=_;rw [adF_len f c]
theorem adF_take(f:Int):∀(c n:Nat) (s:Int),c≤n→(adF a f n s).take c=adF a f c s
  |0,_,_,_=>by simp [adF]
  |c+1,n+1,s,h=>by show a f s::(adF a f n (s+1)).take c=_;rw [adF_take f c n _ (by omega)];rfl
theorem adF_getD(f:Int):∀(c:Nat) (s:Int) (i:Nat),i<c→(adF a f c s).getD i 0=a f (s+i)
  |c+1,s,0,_=>by show a f s=_;rw [Int.natCast_zero,Int.add_zero]
  |c+1,s,i+1,h=>by
    show (adF a f c (s+1)).getD i 0=_
    rw [adF_getD f c _ i (by omega),show s+1+(i:Int)=s+((i+1:Nat):Int) by omega]
theorem pathG_fan{m:AdM × StM}{f:Int}{n:Nat}(h1:∀t:Int,1≤t→t≤n→stU m f t=2∧look1 m.1 (f,t)=some (a f t))(h2:hasS m.2 f (n+1)=false):
    ∀(c k:Nat) (t:Int),1≤t→t+c=n+1→c<k→pathG m f k t=adF a f c t
  |0,k+1,t,_,he,_=>by
    unfold pathG
    have:t=(n:Int)+1:=by omega
    rw [this,h2];rfl
  |c+1,k+1,t,ht,he,hk=>by
    obtain ⟨a1,a2⟩:=h1 t ht (by omega)
    have:hasS m.2 f t=true:=by unfold hasS;unfold stU at a1;rw [a1];rfl
    unfold pathG adF
    rw [if_pos this,a2,pathG_fan h1 h2 c k (t+1) (by omega) (by omega) (by omega)]
    rfl
  |_,0,_,_,_,h=>by omega
theorem Fan.path(h:Fan a M t0 l){r:Rs}(hr:r∈l)(hn:M r.fl<256):pathF l r.fl=adF a r.fl (M r.fl) 1:=by
  unfold pathF;obtain ⟨i1,i2⟩:=look_fan (a:=a) l ([],[]) (fun r hr=>⟨h.us hr,(h.ok r hr).2.2.1,(h.ok r hr).2.2.2.2.2.2.2⟩) (fun f t=> .inl (by show (0:Int)≤1;decide));rw [←h.look] at i1 i2
  refine pathG_fan (n:=M r.fl) (fun t h1 h2=> ?_) ?_ (M r.fl) 256 1 (by decide) (by omega) hn
  · have e:=i2 r.fl t (.inr (h.all r hr t h1 h2));refine ⟨e,?_⟩;rcases i1 r.fl t with h3|h3
    · rw [e] at h3;exact absurd h3 (by decide)
    · exact h3.2
  · cases hb:hasS (lookG l).2 r.fl (M r.fl+1) with
    |false=>rfl
    |true=>
      unfold hasS at hb
      cases e:look1 (lookG l).2 (r.fl,(M r.fl:Int)+1) with
      |none=>rw [e] at hb;simp at hb
      |some v=>
        obtain ⟨_,x,hx,_,hs⟩:=lookG_keys l _ _ e
        injection hs with hf hs
        have:=(h.ok x hx).2.2.2.2.2.2.1;rw [←hf] at this;omega
theorem Fan.sd(h:Fan a M t0 l):sd cmpR (l.filter okR)=l:=by
  have:l.filter okR=l:=List.filter_eq_self.2 fun r hr=>(h.ok r hr).1
  rw [this];exact sd_eq ordR h.up
theorem clash_fan:∀(q:List Rs) (m:SeenM),(∀r∈q,r.an=true∧r.fr=a r.fl r.tt)→(∀s v,look1 m s=some v→v=a s.2.1 s.2.2)→clashG m q=q.length
  | [],_,_,_=>rfl
  |r::q,m,hq,hm=>by
    have ih:=fun m' =>clash_fan q m' fun x hx=>hq x (List.mem_cons_of_mem _ hx)
    unfold clashG
    rw [List.length_cons]
    obtain ⟨ha,hr⟩:=hq r (List.mem_cons_self ..)
    by_cases hp:plB r=false
    · rw [if_pos hp,ih m hm]
    · rw [if_neg hp,if_neg,ih]
      · intro s v hs
        rw [look1_ins] at hs
        split at hs
        · rename_i e;subst e;injection hs with hs;rw [←hs];exact hr
        · exact hm s v hs
      · rintro ⟨h1,h2⟩
        obtain ⟨v,hv⟩:=Option.isSome_iff_exists.1 h1
        rw [hv] at h2
        exact h2 (by rw [hr];exact hm _ v hv)
theorem Fan.chk(h:Fan a M t0 l)(hl:l.length≤512):chkF l=0:=by
  have hc:consB l=true:=by
    unfold consB witG;rw [h.sd,clash_fan (a:=a) l [] (fun r hr=>⟨(h.ok r hr).2.2.1,(h.ok r hr).2.2.2.2.2.2.2⟩) (fun _ _ h=>by cases h)];simp
  unfold chkF;rw [if_neg,h.sd,if_neg (by omega),if_pos hc];intro h';obtain ⟨r,hr,h1⟩:=List.any_eq_true.1 h';rw [(h.ok r hr).1] at h1;cases h1
theorem Fan.pa(h:Fan a M t0 l){r:Rs}(hr:r∈l)(hn:M r.fl<256):paF l r=adF a r.fl (M r.fl) 1:=by
  have e:(l.filter fun x=>decide (trOf x=trOf r))=l:=List.filter_eq_self.2 fun x hx=>by rw [(h.ok x hx).2.2.2.2.1,(h.ok r hr).2.2.2.2.1];simp
  unfold paF ofF;rw [h.sd,e,h.path hr hn]
theorem Fan.ms(h:Fan a M t0 l)(hn:∀f,M f<256)(ha:∀r∈l,(adF a r.fl (M r.fl) 1).all (fun x=>decide (x≠0))=true):msF l=l.map fun r=>(r,wsG 0 (adF a r.fl r.tt.toNat 1)):=by
  have hw:∀r∈l,mesB l r=true∧meF l r=(r,wsG 0 (adF a r.fl r.tt.toNat 1)):=fun r hr=>by
    obtain ⟨_,_,han,_,_,h1,h2,h3⟩:=h.ok r hr;have hu:=h.us hr;have hp:=h.pa hr (hn _);have hl:=adF_len (a:=a) r.fl (M r.fl) 1;have hal:=ha r hr;have htk:=adF_take (a:=a) r.fl r.tt.toNat (M r.fl) 1 (by omega)
    have hO:wsO ((adF a r.fl (M r.fl) 1).take r.tt.toNat)=(wsG 0 (adF a r.fl r.tt.toNat 1),true):=by
      rw [htk];unfold wsO;rw [if_pos];rw [←htk]
      exact List.all_eq_true.2 fun x hx=>List.all_eq_true.1 hal x (List.mem_of_mem_take hx)
    have hg:(adF a r.fl (M r.fl) 1).getD (r.tt.toNat - 1) 0=r.fr:=by
      rw [adF_getD _ _ _ _ (by omega),h3];congr 1;omega
    unfold mesB meF;rw [hp,hO,hg,han,hu,hl,decide_eq_true h2,decide_eq_true J];exact ⟨rfl,rfl⟩
  unfold msF;rw [h.sd,List.filter_eq_self.2 fun r hr=>(hw r hr).1]
  exact List.map_congr_left fun r hr=>(hw r hr).2
end Go.Proofs.YtojkdfilabmafaaGreat
namespace Go.Proofs.YtojkdfilabmafaaGreat
open Go.Own Go.Limbs Go.Det
def smT (T : Wr → Int) : List Wr → Int
  | [] => 0
  | w :: ws => T w + smT T ws
theorem cfW_at{vs:List Wr}(ws:List Wr)(f:Int){j:Nat}(hj:j<vs.length):(cfW vs ws f).getD j 0=f*(ws.count (vs.getD j wr0):Int):=by
  unfold cfW;rw [List.getD_eq_getElem?_getD,List.getElem?_map,List.getD_eq_getElem?_getD,List.getElem?_eq_getElem hj];rfl
theorem up_inj{vs:List Wr}(hu:Up cmpW vs){i j:Nat}(hi:i<vs.length)(hj:j<vs.length)(h:vs.getD i wr0=vs.getD j wr0):i=j:=by
  rw [List.getD_eq_getElem?_getD,List.getElem?_eq_getElem hi,List.getD_eq_getElem?_getD,List.getElem?_eq_getElem hj] at h;have h:vs[i]=vs[j]:=h
  have key:∀a b:Nat,∀(ha:a<vs.length) (hb:b<vs.length),a<b→vs[a]=vs[b]→False:=fun a b ha hb hab e=>by
    have h5:=List.pairwise_iff_getElem.1 hu a b ha hb hab;rw [e,ordW.self] at h5;exact absurd h5 (by decide)
  rcases Nat.lt_trichotomy i j with hc|hc|hc
  · exact (key i j hi hj hc h).elim
  · exact hc
  · exact (key j i hj hi hc h.symm).elim
section
variable {vs : List Wr} (hu : Up cmpW vs) (T : Wr → Int)
include hu
theorem rsum_cf(f:Int):∀ws:List Wr,(∀w∈ws,w∈vs)→rsum vs.length (cfW vs ws f) (fun j=>T (vs.getD j wr0))=f*smT T ws
  | [],_=>by
    unfold rsum
    rw [ZV (fun k hk=>by rw [cfW_at [] f hk];simp)]
    simp [smT]
  |w::ws,h=>by
    have ih:=rsum_cf f ws fun x hx=>h x (List.mem_cons_of_mem _ hx)
    obtain ⟨i,hi,e⟩:=List.getElem_of_mem (h w (List.mem_cons_self ..))
    have ei:vs.getD i wr0=w:=by rw [List.getD_eq_getElem?_getD,List.getElem?_eq_getElem hi];exact e
    unfold rsum at ih ⊢
    rw [Xa (g:=fun j=>(cfW vs ws f).getD j 0*T (vs.getD j wr0)+(if j=i then f*T w else 0)) (fun k hk=>by
      rw [cfW_at (w::ws) f hk,cfW_at ws f hk,List.count_cons]
      dsimp only
      by_cases e2:k=i
      · subst e2
        rw [ei,if_pos rfl,if_pos (by simp),Int.natCast_add,Int.mul_add,Int.add_mul,Int.natCast_one,Int.mul_one]
      · rw [if_neg e2,if_neg,Nat.add_zero,Int.add_zero]
        intro h2
        have h2:w=vs.getD k wr0:=by simpa using h2
        exact e2 (up_inj hu hk hi (by rw [ei,←h2]))),sm_add,ih,Yj (i:=i) hi (fun k _ hk=>if_neg hk),if_pos rfl]
    show f*smT T ws+f*T w=f*(T w+smT T ws)
    rw [Int.mul_add,Int.add_comm]
theorem feas_T{ms:List Me}{mo qu:Int}(hT:∀v∈vs,0≤T v∧T v≤mo)(hm:∀m∈ms,(∀w∈m.2,w∈vs)∧smT T m.2≤m.1.bk - m.1.tm∧m.1.bk - m.1.tm≤smT T m.2+qu):
    Feas vs.length (rowsD vs mo qu ms) 1 (fun j=>T (vs.getD j wr0)):=by
  refine feas_of (fun v hv=>(hT _ (by rw [List.getD_eq_getElem?_getD,List.getElem?_eq_getElem hv];exact List.getElem_mem _)).1) fun r hr=> ?_
  unfold rowsD at hr;rcases List.mem_append.1 hr with h|h
  · obtain ⟨v,hv,rfl⟩:=List.mem_map.1 h;dsimp only;rw [rsum_cf hu T 1 [v] (fun w hw=>by rw [List.mem_singleton.1 hw];exact hv),Int.one_mul];show T v+0≤mo;have:=hT v hv;omega
  · obtain ⟨m,hmm,h⟩:=List.mem_flatMap.1 h;obtain ⟨h1,h2,h3⟩:=hm m hmm;rcases List.mem_cons.1 h with rfl|h
    · dsimp only;rw [rsum_cf hu T 1 m.2 h1,Int.one_mul];exact h2
    · rw [List.mem_singleton.1 h];dsimp only;rw [rsum_cf hu T (-1) m.2 h1];omega
end
end Go.Proofs.YtojkdfilabmafaaGreat
namespace Go.Proofs.YtojkdfilabmafaaGreat
open Go.Own Go.Limbs
attribute [local irreducible] St Ops Go.Own.Fin Ok OkB OkN OkT OkL OkF OkM
abbrev Dl := Wr × (Int × Int)
def dl0 : Dl := ((0, 0), (0, 0))
abbrev dlCs (d : Dl) : List CT := [adrF d.1.1, adrF d.1.2, intC d.2.1, intC d.2.2]
abbrev dlC (d : Dl) : CT := .fr (aggT (dlCs d))
abbrev dlsC (l : List Dl) : CT := .fr (sliceT 4 (l.map dlCs))
def dls (l : List Dl) : List CT := (l.map dlCs).flatten
end Go.Proofs.YtojkdfilabmafaaGreat
namespace Go.Proofs.YtojkdfilabmafaaGreat
open Go.Own Go.Limbs
def aT (f t : Int) : Ad := (ptT.getD f.toNat []).getD (t.toNat - 1) 0
def MT (M : Nat → Nat) (f : Int) : Nat := if 0 ≤ f ∧ f < 2 then M f.toNat else 0
theorem MT_nat(M:Nat→Nat){f:Nat}(h:f<2):MT M (f:Int)=M f:=by
  unfold MT;rw [if_pos (by omega)];rfl
theorem ptT_ne:∀f,f<2→∀i,i<4→(ptT.getD f []).getD i 0≠0:=by decide
theorem ptT_len{f:Nat}(h:f<2):(ptT.getD f []).length=4:=by
  have:f=0∨f=1:=by omega
  rcases this with rfl|rfl <;>rfl
theorem adF_pt{f:Nat}(hf:f<2):∀(c:Nat) (s:Nat),s+c≤4→adF aT f c (s+1:Nat)=((ptT.getD f []).drop s).take c
  |0,_,_=>by simp [adF]
  |c+1,s,h=>by
    have hl:=ptT_len hf
    have ih:=adF_pt hf c (s+1) (by omega)
    show aT f ((s+1:Nat):Int)::adF aT f c (((s+1:Nat):Int)+1)=_
    rw [show (((s+1:Nat):Int)+1)=((s+1+1:Nat):Int) by omega,ih]
    have e:aT f ((s+1:Nat):Int)=(ptT.getD f []).getD s 0:=rfl
    rw [e]
    generalize ptT.getD f []=p at hl
    rw [List.drop_eq_getElem_cons (by omega:s<p.length),List.take_succ_cons,List.getD_eq_getElem?_getD,List.getElem?_eq_getElem (by omega)];rfl
theorem adF_pt1{f c:Nat}(hf:f<2)(h:c≤4):adF aT f c 1=(ptT.getD f []).take c:=adF_pt hf c 0 (by omega)
theorem smT_app(T:Wr→Int):∀(l m:List Wr),smT T (l++m)=smT T l+smT T m
  | [],m=>by show smT T m=0+_;rw [Int.zero_add]
  |w::l,m=>by show T w+smT T (l++m)=T w+smT T l+smT T m;rw [smT_app T l m,Int.add_assoc]
theorem smT_wsG(ws:List Wr)(ts:List Int)(p:List Ad):∀t,t≤p.length→smT (fun w=>tmK ws ts w ws.length) (wsG 0 (p.take t))=smK ws ts p t
  |0,_=>rfl
  |t+1,h=>by
    have ih:=smT_wsG ws ts p t (by omega)
    have e:p.take (t+1)=p.take t++ [p.getD t 0]:=by
      rw [List.take_add_one,List.getElem?_eq_getElem (by omega),List.getD_eq_getElem?_getD,List.getElem?_eq_getElem (by omega)];rfl
    have e2:(if p.take t=[] then (0:Ad) else (p.take t).getD ((p.take t).length - 1) 0)=prA p t:=by
      cases t with
      |zero=>rfl
      |succ s=>
        have hl:(p.take (s+1)).length=s+1:=by rw [List.length_take];omega
        rw [if_neg (fun h=>by rw [h] at hl;cases hl),hl,List.getD_eq_getElem?_getD,List.getElem?_take_of_lt (by omega),←List.getD_eq_getElem?_getD];rfl
    rw [e,wsG_snoc,smT_app,ih,e2];show smK ws ts p t+(tmK ws ts (prA p t,p.getD t 0) ws.length+0)=smK ws ts p t+_;rw [Int.add_zero]
section
variable {ts : List Int} {q : Int} {M : Nat → Nat} {out : List Rs}
theorem tr_at(h:TrP ts q M out){r:Rs}(hr:r∈out):∃(i f t:Nat) (u:Int),i<out.length∧f<2∧1≤t∧t≤M f∧(0≤u∧u≤q)∧r=rpH f i t (smK (wiB 2) ts (ptT.getD f []) t+u) ((ptT.getD f []).getD (t - 1) 0):=by
  obtain ⟨i,hi,e⟩:=List.getElem_of_mem hr;obtain ⟨f,t,u,a1,a2,a3,a4,a5⟩:=h.1 i hi;rw [List.getD_eq_getElem?_getD,List.getElem?_eq_getElem hi] at a5;exact ⟨i,f,t,u,hi,a1,a2,a3,a4,by rw [←e];exact a5⟩
theorem tr_fan(hl:ts.length=(wiB 2).length)(hts:∀y∈ts,0≤y∧y≤60)(hq:0≤q∧q≤100)(hM:∀f,f<2→2≤M f∧M f≤4)(h:TrP ts q M out)(ho:out.length≤13):Fan aT (MT M) x0T out where
  up:=by
    show List.Pairwise _ _;rw [List.pairwise_iff_getElem];intro i j hi hj hij;obtain ⟨f,t,u,_,_,_,_,a5⟩:=h.1 i hi;obtain ⟨g,s,v,_,_,_,_,b5⟩:=h.1 j hj;rw [List.getD_eq_getElem?_getD,List.getElem?_eq_getElem hi] at a5;rw [List.getD_eq_getElem?_getD,List.getElem?_eq_getElem hj] at b5;have a5:out[i]=_:=a5;have b5:out[j]=_:=b5;rw [a5,b5];exact cmpL_lt (show 1000*(i:Int)<1000*j by omega)
  ok r hr:=by
    obtain ⟨i,f,t,u,hi,hf,ht1,ht2,hu,rfl⟩:=tr_at h hr;have hMf:=hM f hf;have hs:=smK_bd (ws:=wiB 2) hts (by have:=wiB_len 2;omega) (ptT.getD f []) t;have hne:=ptT_ne f hf (t - 1) (by omega);have hfr:aT (f:Int) (t:Int)=(ptT.getD f []).getD (t - 1) 0:=rfl;generalize smK (wiB 2) ts (ptT.getD f []) t=s at hs;refine ⟨?_,rfl,rfl,rfl,rfl,by show 1≤(t:Int);omega,by show (t:Int)≤(MT M (f:Int):Nat);rw [MT_nat M hf];omega,hfr.symm⟩;generalize (ptT.getD f []).getD (t - 1) 0=a at hne
    have hv:a.val≠0:=fun e=>hne (_root_.Fin.ext e)
    have hP1:¬P1 (rpH f i t (s+u) a):=by unfold P1 rpH;simp only;omega
    have hP2:¬P2 (rpH f i t (s+u) a):=by unfold P2 rpH;simp only;omega
    have hP3:¬P3 (rpH f i t (s+u) a):=by unfold P3 rpH;simp
    have hP4:¬P4 (rpH f i t (s+u) a):=by unfold P4 rpH;simp only;omega
    have hck:ckE (rpH f i t (s+u) a)=0:=by unfold ckE;rw [if_neg hP1,if_neg hP2,if_neg hP3,if_neg hP4]
    have hf2:(rpH f i t (s+u) a).fr.val≠0:=hv;unfold okR;rw [hck,decide_eq_true hf2];simp [rpH]
  all r hr t ht1 ht2:=by
    obtain ⟨i,f,s,u,hi,hf,hs1,hs2,hu,rfl⟩:=tr_at h hr;have ht2:t≤(MT M (f:Int):Nat):=ht2;rw [MT_nat M hf] at ht2;obtain ⟨t,rfl⟩:=Int.eq_ofNat_of_zero_le (show 0≤t by omega);exact h.2 f hf t (by omega) (by omega)
end
end Go.Proofs.YtojkdfilabmafaaGreat
