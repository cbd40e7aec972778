/- The proof that DelayProved holds for every input, without conditions: part 6 of 7. -/
import Derived.Test.YtojkdfilabmafaaGreatZ5
import Derived.ProofKit
import Derived.OpenShut
import Derived.ShutString
import Derived.ChangeOld
import Derived.DataElems
set_option maxHeartbeats 32000000
namespace Go.Proofs.YtojkdfilabmafaaGreat
open Go.Own Go.Limbs Go.Proofs.Tryz
attribute [local irreducible] St Ops Go.Own.Fin Ok OkF
def okK (c : List Int) (xs : List Fr) : Nat → Bool
  | 0 => true
  | k + 1 => okK c xs k && (fitF (ofQ ((c.getD k 0 : Rat) * qv (xs.getD k fr0))) && fitF (ofQ (psum c xs (k + 1))))
def okV (c : List Int) (xs : List Fr) : Bool := okK c xs (min c.length xs.length)
def vlV (c : List Int) (xs : List Fr) : Fr := if okV c xs then ofQ (vsum c xs) else ⟨false, 0, 0⟩
def vlE (c : List Int) (xs : List Fr) : Int := if okV c xs then 0 else 5
theorem okK_le{c:List Int}{xs:List Fr}{j:Nat}:∀{k:Nat},j<=k ->okK c xs k=true ->okK c xs j=true
 |0,h,e=>by have:j=0:=by omega
            subst this;exact e
 |k+1,h,e=>by
  by_cases hj:j=k+1
  · subst hj;exact e
  · unfold okK at e
    rw [Bool.and_eq_true] at e
    exact okK_le (k:=k) (by omega) e.1
theorem fitF_spec{f:Fr}:fitF f=true↔(limbs f.num).length<=64/\ (limbs f.den).length<=64:=by
 unfold fitF;rw [Bool.and_eq_true,decide_eq_true_eq,decide_eq_true_eq]
theorem fit_zero:fitF (ofQ 0)=true:=by decide+kernel
theorem okK_sz{c:List Int}{xs:List Fr}:∀{k:Nat},okK c xs k=true ->fitF (ofQ (psum c xs k))=true
 |0,_=>fit_zero
 |k+1,e=>by
  unfold okK at e
  rw [Bool.and_eq_true,Bool.and_eq_true] at e
  exact e.2.2
theorem int_fit{n:Int}(h1: -9223372036854775808<=n)(h2:n<=9223372036854775807):fitF (ofQ (n:Rat))=true:=by
 rw [fitF_spec];have e1:(ofQ (n:Rat)).num=n.natAbs:=rfl;rw [e1,ofQ_int_den];exact ⟨Nat.le_trans (Qs (k:=3) (show n.natAbs<1073741824 ^ 3 by omega)) (by decide),Nat.le_trans (Qs (k:=1) (by decide)) (by decide)⟩
theorem Value_any(c:List Int)(xs:List Fr)(hcl:c.length<=1000)(hxl:xs.length<=1000)(hcb:∀i, -9223372036854775808<=c.getD i 0/\ c.getD i 0<=9223372036854775807)(hV:∀f∈xs,VF f):
  Ok prog 220 [intsC c,fracsC xs] (.fr (tupT [fracC (vlV c xs),intC (vlE c xs)])):=by
 have hbad:okV c xs=false ->vlV c xs=⟨false,0,0⟩/\ vlE c xs=5:=fun h=>by unfold vlV vlE;rw [h];exact ⟨rfl,rfl⟩
 have hgood:okV c xs=true ->vlV c xs=ofQ (psum c xs (min c.length xs.length))/\ vlE c xs=0:=fun h=>by unfold vlV vlE;rw [h];exact ⟨rfl,rfl⟩
 have hno:∀i,i<min c.length xs.length ->okK c xs (i+1)=false ->okV c xs=false:=fun i hi h=>by
  cases e:okV c xs with
  |false=>rfl
  |true=>exact absurd (okK_le (j:=i+1) (by omega) e) (by rw [h];decide)
 have hyes:okK c xs (min c.length xs.length)=true ->okV c xs=true:=id;generalize vlV c xs=V at*;generalize vlE c xs=E at*;generalize okV c xs=ov at*
 refine Ok.enter func220 J _ ntmps220 J ?_
 intro S w;refine Qj (Qx ?_);refine Qb 0 J J zvFrac J J J (Qy J J J (Qz (Qq (Qj ?_))));refine Qx (QJ goFFrom (From_int 0 (by decide) (by decide)) J J J J ?_);refine Qv J J J (QV J J J J (QV J J J J (Qb 1 J J zvFrac J J J (Q7 3 J J J J J szFrac J J (Qy J J J (Qz (Qq (Qj (Qj ?_)))))))));refine Qx (Qv J J J (Q9 J J sInts.und (List.length_map ..) J (Qv J J J (Q9 J J sFracs.und (List.length_map ..) J (Ops.min2 J J J J (Qv J J J (Qz (Qq (Q2 ?_)))))))))
 refine Qn (α:=Nat) (fun i=>i<=min c.length xs.length/\ okK c xs i=true)
  (fun i=>[(0, .ct (intsC c)),(1, .ct (fracsC xs)),(4, .own 0),(6, .own 1),(19, .ct (intC (min (c.length:Int) xs.length))),(20, .ct (intC i))])
  (fun i=>[(1, .box 88 (frCs (ofQ (psum c xs i)))),(0, .box 88 [.ex (.bool false), .ex (.slice none 0 0), .ex (.slice none 0 0)])]) (fun i=>min c.length xs.length - i) 0 ⟨Nat.zero_le _,rfl⟩ (by exact QX J ⟨rfl,rfl,rfl,rfl,rfl,rfl,trivial⟩) ?_
 intro i ⟨hi,hok⟩
 (try dsimp only at hi hok ⊢)
 have es:psum c xs (i+1)=psum c xs i+(c.getD i 0:Rat)*qv (xs.getD i fr0):=rfl;have eo:okK c xs (i+1)=(okK c xs i&&(fitF (ofQ ((c.getD i 0:Rat)*qv (xs.getD i fr0)))&&fitF (ofQ (psum c xs (i+1))))):=rfl;rw [hok,Bool.true_and] at eo;refine Qj (Qx ?_);refine Qw ilss J J J J (Qz (Qq (Qj ?_)));refine Q1 J (fun h=> ?_) (fun h=> ?_)
 · have e2:(i:Int).toNat=i:=Int.toNat_natCast i
   have hi2:i<min c.length xs.length:=by omega
   have hcbi:=hcb i;have hx:=hV (xs.getD i fr0) (Zc (by omega));have hci:=fitF_spec.1 (int_fit hcbi.1 hcbi.2);have hps:=fitF_spec.1 (okK_sz hok);have hM:=FMul_any (ofQ (c.getD i 0:Rat)) (xs.getD i fr0) hci.1 hx.den hx.num hci.2 (ofQ_den _) hx.pos;rw [qv_ofQ] at hM;refine QU (Qq (Qj (Q2 (Qj (Qx ?_)))));refine Qk 2 J (Qz (Qq (Qj ?_)));refine Qx (Qk 2 J (Ql J J J sInts (by omega) (XK (by omega) (by omega)) J ?_))
   refine Xj J J J lInt J ?_
   rw [e2]
   refine QJ goFFrom (From_int (c.getD i 0) (by omega) (by omega)) J J J J ?_
   refine Qv J J J (QV J J J J (QV J J J J (Qb 2 J J zvFrac J J J (Q7 3 J J J J J szFrac J J (Qy J J J (Qz (Qq (Qj (Qj ?_)))))))));refine Qx (Qv J J J (Qw ieql J J J J (Qz (Qq (Xk J ?_)))));refine Xy mixed 9 (.p 1 (.p 2 (.p 3 (.f 0 (.f 4 (.m 5 (.p 6 (.p 7 (.p 8 (.a 9 (.p 10 .done))))))))))) (by kernel_rfl) (fun K hK=> ?_);refine Qk 2 J (Ql J J J sFracs (by omega) (fracs_at (by omega) (by omega)) J ?_);refine Qa (n:=3) J J J J J Xn J (Xe (n:=3) J J J Xn J J ?_);rw [e2];skip
   cases hp:fitF (ofQ ((c.getD i 0:Rat)*qv (xs.getD i fr0))) with
   |false=>
    rw [hp,Bool.false_and] at eo;obtain ⟨hv,he⟩:=hbad (hno i hi2 eo)
    have hm2:chkV (ofQ ((c.getD i 0:Rat)*qv (xs.getD i fr0)))=⟨false,0,0⟩/\ chkE (ofQ ((c.getD i 0:Rat)*qv (xs.getD i fr0)))=5:=by unfold chkV chkE;rw [hp];exact ⟨rfl,rfl⟩
    rw [hm2.1,hm2.2] at hM;subst he;refine QJ goFMul hM J J J J (Qv J J J (QV J J J J (QV J J J J (Q7 3 J J J J J szFrac J J (Qy J J J (Qz (hK _ _ (Qq (Qj (Qj ?_))))))))));clear hK K;refine Qx (Qv J J J (Qw ieql J J J J (Qz (Qq (Qt J (QU (Qq (Qj ?_))))))));refine Qx (Qv J J J (Qw ineq J J J J (Qz (Qq (Xk J (Qj ?_))))));refine Qx (Qm J bFrac J .nil J (Qv J J J (Q7 3 J J J J J szFrac J J (Qy J J J (Qz (Qq (Q0 (Q8 (QW (QW (Q8 (QW ?_))))))))))));refine QK [_,_] rfl (X1 (w_agg (frz_cells _ hv)) (Qd (n:=3) J J Xn J (Qu J QQ))) J J
   |true=>
    rw [hp,Bool.true_and] at eo
    have hm2:chkV (ofQ ((c.getD i 0:Rat)*qv (xs.getD i fr0)))=ofQ ((c.getD i 0:Rat)*qv (xs.getD i fr0))/\ chkE (ofQ ((c.getD i 0:Rat)*qv (xs.getD i fr0)))=0:=by unfold chkV chkE;rw [hp];exact ⟨rfl,rfl⟩
    rw [hm2.1,hm2.2] at hM;have hp:=fitF_spec.1 hp;have hA:=FAdd_any (ofQ (psum c xs i)) (ofQ ((c.getD i 0:Rat)*qv (xs.getD i fr0))) hps.1 hp.2 hp.1 hps.2 (ofQ_den _) (ofQ_den _);rw [qv_ofQ,qv_ofQ,<- es] at hA;refine QJ goFMul hM J J J J (Qv J J J (QV J J J J (QV J J J J (Q7 3 J J J J J szFrac J J (Qy J J J (Qz (hK _ _ (Qq (Qj (Qj ?_))))))))));clear hK K;refine Qx (Qv J J J (Qw ieql J J J J (Qz (Qq (Xk J ?_)))));refine Qx (Qa (n:=3) J J J J J Xn J (Qa (n:=3) J J J J J Xn J ?_))
    cases hs:fitF (ofQ (psum c xs (i+1))) with
    |false=>
     rw [hs] at eo;obtain ⟨hv,he⟩:=hbad (hno i hi2 eo)
     have ha2:chkV (ofQ (psum c xs (i+1)))=⟨false,0,0⟩/\ chkE (ofQ (psum c xs (i+1)))=5:=by unfold chkV chkE;rw [hs];exact ⟨rfl,rfl⟩
     rw [ha2.1,ha2.2] at hA;subst he;refine QJ goFAdd hA J J J J (Qv J J J (QV J J J J (QV J J J J (Q7 3 J J J J J szFrac J J (Qy J J J (Qz (Qq (Qj ?_))))))));refine Qx (Qv J J J (Qw ineq J J J J (Qz (Qq (Xk J (Qj ?_))))));refine Qx (Qm J bFrac J .nil J (Qv J J J (Q7 3 J J J J J szFrac J J (Qy J J J (Qz (Qq (Q0 (Q8 (QW (QW (Q8 (QW ?_))))))))))));refine QK [_,_] rfl (X1 (w_agg (frz_cells _ hv)) (Qd (n:=3) J J Xn J (Qu J QQ))) J J
    |true=>
     rw [hs] at eo
     have ha2:chkV (ofQ (psum c xs (i+1)))=ofQ (psum c xs (i+1))/\ chkE (ofQ (psum c xs (i+1)))=0:=by unfold chkV chkE;rw [hs];exact ⟨rfl,rfl⟩
     rw [ha2.1,ha2.2] at hA;refine QJ goFAdd hA J J J J (Qv J J J (QV J J J J (QV J J J J (Q7 3 J J J J J szFrac J J (Qy J J J (Qz (Qq (Qj ?_))))))));refine Qx (Qv J J J (Qw ineq J J J J (Qz (Qq (Qt J (QU (Qq ?_)))))));refine Qx (Qw (iadd (by omega) (by omega)) J J J J ?_);refine Qv J J J (Qz (Q5 ?_));refine Xv 2 (Q6 (i+1) (by omega) ⟨by omega,eo⟩ (by exact QX J ⟨rfl,rfl,rfl,rfl,rfl,by simp only [Int.natCast_add];rfl,trivial⟩))
 · have hi' :i=min c.length xs.length:=by omega
   subst hi';obtain ⟨hv,he⟩:=hgood (hyes hok);subst hv;subst he;refine Qi (Qq (Qj (Qx ?_)));refine Qa (n:=3) J J J J J Xn J (Q7 3 J J J J J szFrac J J (Qy J J J (Qz (Qq (Q0 ?_)))));refine QK [_,_] rfl (Qd (n:=3) J J Xn J (Qu J QQ)) J J
end Go.Proofs.YtojkdfilabmafaaGreat
namespace Go.Proofs.YtojkdfilabmafaaGreat
open Go.Own Go.Limbs Go.Det Go.Proofs.Tryz
theorem mkR_le{a b:Int}{d e:Nat}(hd:0<d)(he:0<e)(h:a*e<=b*d):mkRat a d<=mkRat b e:=by
 cases ep:mkRat a d with
 |mk' pn pd z1 c1=>
  cases eq:mkRat b e with
  |mk' qn qd z2 c2=>
   obtain ⟨m,hm,e1,e2⟩:=Rat.mkRat_num_den (by omega) ep;obtain ⟨k,hk,e3,e4⟩:=Rat.mkRat_num_den (by omega) eq;rw [Rat.le_iff];dsimp only;subst e1 e2 e3 e4;rw [Int.natCast_mul,Int.natCast_mul] at h
   have hmk:(0:Int)<(m:Int)*k:=by exact_mod_cast Nat.mul_pos (Nat.pos_of_ne_zero hm) (Nat.pos_of_ne_zero hk)
   refine Int.le_of_mul_le_mul_left ?_ hmk
   rw [show (m:Int)*k*(pn*qd)=pn*m*(qd*k) by grind,show (m:Int)*k*(qn*pd)=qn*k*(pd*m) by grind];exact h
theorem shq_mul(a k D:Int):shq (k*a) D=shq a D*(k:Rat):=by
 unfold shq;rw [<- Rat.mkRat_one k,Rat.mkRat_mul_mkRat,Nat.mul_one,Int.mul_comm]
theorem shq_add(a b D:Int):shq (a+b) D=shq a D+shq b D:=by
 unfold shq;rcases Nat.eq_zero_or_pos D.natAbs with h|h
 · rw [h,Rat.mkRat_zero,Rat.mkRat_zero,Rat.mkRat_zero,Rat.add_zero]
 · rw [Rat.mkRat_add_mkRat _ _ (by omega) (by omega),<- Int.add_mul,Rat.mkRat_mul_right (by omega)]
theorem ptl_len(n:Nat)(X:Nat ->Int)(D:Int):(ptl n X D).length=n:=by simp [ptl]
theorem sm_tail(f:Nat ->Int){m n:Nat}(h:m<=n)(hz:∀k,m<=k ->f k=0):sm f n=sm f m:=by
 obtain ⟨k,rfl⟩:=Nat.le.dest h;rw [sm_app,Z2 (f:=fun j=>f (m+j)) fun j _=>hz _ (by omega),Int.add_zero]
theorem cmpQ_neg{p q:Rat}:cmpQ p q<0↔p<q:=by
 rw [Rat.lt_iff];unfold cmpQ;rw [Int.sign_neg_iff];omega
theorem cmpQ_self(p:Rat):cmpQ p p=0:=by unfold cmpQ;rw [Int.sub_self];rfl
theorem shq_le_int{a D b:Int}(hD:0<D)(h:a<=D*b):shq a D<=(b:Rat):=by
 rw [<- Rat.mkRat_one b];unfold shq;exact mkR_le (by omega) (by omega) (by rw [show ((D.natAbs:Nat):Int)=D by omega];have:=Int.mul_comm b D;omega)
theorem int_le_shq{a D b:Int}(hD:0<D)(h:D*b<=a):(b:Rat)<=shq a D:=by
 rw [<- Rat.mkRat_one b];unfold shq;exact mkR_le (by omega) (by omega) (by rw [show ((D.natAbs:Nat):Int)=D by omega];have:=Int.mul_comm b D;omega)
theorem shq_num_sign{a D:Int}(hD:0<D):(0<=a ->0<=(shq a D).num)/\ (a<0 ->(shq a D).num<0)/\ (0<a ->0<(shq a D).num):=by
 have key:∃m:Nat,m≠0/\ a=(shq a D).num*m:=by
  unfold shq
  cases e:mkRat a D.natAbs with
  |mk' p d z c=>
   obtain ⟨m,hm,e1,e2⟩:=Rat.mkRat_num_den (by omega) e;exact ⟨m,hm,e1⟩
 obtain ⟨m,hm,e⟩:=key
 have hm' :(0:Int)<m:=by omega
 generalize (shq a D).num=q at e;subst e;refine ⟨fun h=> ?_,fun h=> ?_,fun h=> ?_⟩
 · exact Int.not_lt.1 fun h1=>by have:=Int.mul_neg_of_neg_of_pos h1 hm';omega
 · exact Int.not_le.1 fun h1=>by have:=Int.mul_nonneg h1 (Int.le_of_lt hm');omega
 · exact Int.not_le.1 fun h1=>by have:=Int.mul_nonneg (Int.neg_nonneg_of_nonpos h1) (Int.le_of_lt hm');rw [Int.neg_mul] at this;omega
end Go.Proofs.YtojkdfilabmafaaGreat
namespace Go.Proofs.YtojkdfilabmafaaGreat
open Go.Own Go.Limbs Go.Proofs.Tryz
attribute [local irreducible] St Ops Go.Own.Fin Ok
theorem zvInt:(prog.info? 3).map (·.zero)=some (some (.int .i64 0)):=by kernel_rfl
theorem gomultipliers1:InGo prog 219:=InGo.of func219 (by kernel_rfl) (by kernel_rfl)
theorem gomultipliers:InGo prog 155:=InGo.of func155 (by kernel_rfl) (by kernel_rfl)
theorem take_map_succ{α β:Type}(f:α ->β)(z:α){xs:List α}{i:Nat}(h:i<xs.length):(xs.take (i+1)).map f=(xs.take i).map f++ [f (xs.getD i z)]:=by
 rw [List.take_succ_eq_append_getElem h,List.map_append];simp [List.getD_eq_getElem?_getD,List.getElem?_eq_getElem h]
theorem gofold:InGo prog 156:=InGo.of func156 (by kernel_rfl) (by kernel_rfl)
theorem Combine1_ok(j:Nat)(r:Rw):Ok prog 157 ([rowC r]++ [.fr (ptrT [intC j])]) (intC (r.cs.getD j 0)):=by
 refine Ok.enter func157 J _ ntmps157 J ?_
 intro S w;refine Qj (Qx ?_);refine Xx 0 J J J J J J J (Qy J J J (Qz (Qq (Qj (Qj ?_)))));refine Qx (Xj J J J lInt J (QY J J J fR0 J (QZ J J J J J lInts J (Q9 J J sInts.und (List.length_map ..) J (Qw ilss J J J J (Qz (Qq ?_)))))));refine Q1 J (fun h=> ?_) (fun h=> ?_)
 · have e2:(j:Int).toNat=j:=Int.toNat_natCast j;refine Qj (Qx ?_);refine QY J J J fR0 J (QZ J J J J J lInts J (Xj J J J lInt J (Ql J J J sInts (by omega) (XK (by omega) (by omega)) J ?_)));refine Xj J J J lInt J (Qy J J J (Qz (Qq (Q0 (QW ?_)))));rw [e2];skip;refine QK [_] rfl (Qu J QQ) J J
 · refine QU (Qq (Qj (Qx ?_)));refine Qy J J J (Qz (Qq (Q0 ?_)));refine QK [_] rfl (Qu J QQ) (by rw [List.getD_eq_getElem?_getD,List.getElem?_eq_none (by omega)];rfl) J
theorem goCombine1:InGo prog 157:=InGo.of func157 (by kernel_rfl) (by kernel_rfl)
theorem Combine2_ok(r:Rw):Ok prog 158 [rowC r] (intC r.b):=by
 refine Ok.enter func158 J _ ntmps158 J ?_
 intro S w;refine Qj (Qx ?_);refine Xx 0 J J J J J J J (Qy J J J (Qz (Qq (Qj ?_))));refine Qx (QY J J J fR1 J (QZ J J J J J lInt J (Qy J J J (Qz (Qq (Q0 ?_))))));refine QK [_] rfl (Qu J QQ) J J
theorem goCombine2:InGo prog 158:=InGo.of func158 (by kernel_rfl) (by kernel_rfl)
theorem goCombine:InGo prog 93:=InGo.of func93 (by kernel_rfl) (by kernel_rfl)
theorem goless:InGo prog 161:=InGo.of func161 (by kernel_rfl) (by kernel_rfl)
theorem gocovers:InGo prog 160:=InGo.of func160 (by kernel_rfl) (by kernel_rfl)
theorem goBounds:InGo prog 94:=InGo.of func94 (by kernel_rfl) (by kernel_rfl)
theorem goCeiling:InGo prog 51:=InGo.of func51 (by kernel_rfl) (by kernel_rfl)
structure SzQ (q : Rat) : Prop where
  n : (limbs (ofQ q).num).length ≤ 64
  d : (limbs (ofQ q).den).length ≤ 64
def colQ (rs : List Rw) (ys : List Fr) (j : Nat) : Rat := vsum (rs.map fun r => r.cs.getD j 0) ys
def bsQ (rs : List Rw) (ys : List Fr) : Rat := vsum (rs.map fun r => r.b) ys
def colsQ (rs : List Rw) (ys : List Fr) (n : Nat) : List Rat := (List.range n).map (colQ rs ys)
abbrev ratsC (qs : List Rat) : CT := .fr (sliceT 3 (qs.map fun q => frCs (ofQ q)))
def rts (qs : List Rat) : List CT := (qs.map fun q => frCs (ofQ q)).flatten
theorem rts_len(qs:List Rat):(rts qs).length=qs.length*3:=by
 unfold rts;rw [Xl (k:=3) (fun e he=>by obtain ⟨m,_,rfl⟩:=List.mem_map.mp he;rfl)];simp
theorem rts_snoc(qs:List Rat)(q:Rat):rts (qs++ [q])=rts qs++frCs (ofQ q):=by simp [rts]
theorem rts_frozen(e:Nat)(qs:List Rat):(Ent.row e 3 (rts qs)).frozen (sliceT 3 (qs.map fun q=>frCs (ofQ q))):=
 ⟨_,rfl,fun e he=>by obtain ⟨m,_,rfl⟩:=List.mem_map.mp he;rfl,by decide,rfl⟩
theorem rats_at{qs:List Rat}{j:Int}(h0:0<=j)(h:j<(qs.length:Int)):(qs.map fun q=>frCs (ofQ q))[j.toNat]? =some (frCs (ofQ (qs.getD j.toNat 0))):=map_at (fun q=>frCs (ofQ q)) 0 h0 h
theorem multipliers1_V(f:Fr)(h:VF f):Ok prog 219 [fracC f] (boolC f.neg):=by
 refine Ok.enter func219 J _ ntmps219 J ?_
 intro S w;refine Qj (Qx ?_);refine Xx 0 J J J J J J J (Qy J J J (Qz (Qq (Qj ?_))));refine Qx (Qa (n:=3) J J J J J Xn J (QJ goFValid (FValid_V f h) J J J J (Qr J J J (Qv J J J (QY J J J fF0 J (QZ J J J J J lBool J (Qk 2 J (Qz (Qq (Q0 ?_))))))))));refine QK [_] rfl (Qu J QQ) J J
theorem less_q(a b:Rat)(ha:SzQ a)(hb:SzQ b):Ok prog 161 [ratC a,ratC b] (boolC (decide (cmpQ a b<0))):=by
 refine Ok.enter func161 J _ ntmps161 J ?_
 intro S w;refine Qj (Qx ?_);refine Xx 0 J J J J J J J (Xx 1 J J J J J J J (Qy J J J (Qz (Qq (Qj ?_)))));refine Qx (Qa (n:=3) J J J J J Xn J (Qa (n:=3) J J J J J Xn J (QJ goFCompare (FCompare_q a b (by have:=ha.n;omega) (by have:=ha.d;omega) (by have:=hb.n;omega) (by have:=hb.d;omega)) J J J J ?_)));refine Qv J J J (QV J J J J (QV J J J J (Qk 2 J (Qz (Qq (Qj ?_))))));refine Qx (Qv J J J (Qw ilss J J J J (Qy J J J (Qz (Qq (Q0 ?_))))));refine QK [_] rfl (Qu J QQ) J J
theorem SzQ.int{b:Int}(h:b.natAbs<=4503599627370496):SzQ (b:Rat):=⟨by have:=(int_lens h).1;omega,by have:=(int_lens h).2;omega⟩
def covQ (os : List Rat) (c : List Int) : Bool := decide (c.length ≤ os.length) && (List.range os.length).all fun j => !decide (cmpQ (os.getD j 0) (c.getD j 0 : Rat) < 0)
theorem covers_q(os:List Rat)(c:List Int)(hl:os.length<=64)(hlc:c.length<=64)(ho:∀y∈os,SzQ y)(hc:∀y∈c,y.natAbs<=4503599627370496):Ok prog 160 [ratsC os,intsC c] (boolC (covQ os c)):=by
 refine Ok.enter func160 J _ ntmps160 J ?_
 intro S w;refine Qj (Qx ?_);refine Qy J J J (Qz (Qq (Qj (Qj ?_))));refine Qx (Qv J J J (Q9 J J sInts.und (List.length_map ..) J (Qv J J J (Q9 J J sFracs.und (List.length_map ..) J (Qw igtr J J J J (Qz (Qq ?_)))))));refine Q1 J (fun h=> ?_) (fun h=> ?_)
 · refine Qj (Qx ?_);refine Qy J J J (Qz (Qq (Q0 (QW ?_))));refine QK [_] rfl (Qu J QQ) (by unfold covQ;rw [decide_eq_false (show ¬c.length<=os.length by omega)];rfl) J
 have hle:c.length<=os.length:=by omega
 clear h;refine QU (Qq (Qj (Qj (Qx ?_))));refine Qv J J J (Q9 J J sFracs.und (List.length_map ..) J (Qv J J J (Qz (Qq (Q2 ?_)))))
 refine Qn (α:=Nat) (fun i=>i<=os.length/\ ∀j,j<i ->¬cmpQ (os.getD j 0) (c.getD j 0:Rat)<0)
  (fun i=>[(1, .ct (intsC c)),(15, .ct (ratsC os)),(16, .ct (intC os.length)),(17, .ct (intC i))]) (fun _=>[]) (fun i=>os.length - i) 0 ⟨Nat.zero_le _,fun j h=>absurd h (Nat.not_lt_zero j)⟩ (by exact QX J ⟨rfl,rfl,rfl,rfl,trivial⟩) ?_
 intro i ⟨hi,hj⟩;dsimp only at hi hj ⊢;refine Qj (Qx ?_);refine Qw ilss J J J J (Qz (Qq (Qj ?_)));refine Q1 J (fun h=> ?_) (fun h=> ?_)
 · have e2:(i:Int).toNat=i:=Int.toNat_natCast i
   have hlt:i<os.length:=by omega
   have b0:=ho (os.getD i 0) (Zc hlt)
   have b1:(c.getD i 0).natAbs<=4503599627370496:=by
    rcases Nat.lt_or_ge i c.length with h|h
    · exact hc _ (Zc h)
    · rw [List.getD_eq_getElem?_getD,List.getElem?_eq_none (by omega)];decide
   have hbad:cmpQ (os.getD i 0) (c.getD i 0:Rat)<0 ->covQ os c=false:=fun hgt=>by
    unfold covQ;rw [List.all_eq_false.mpr ⟨i,List.mem_range.mpr hlt,by rw [decide_eq_true hgt];decide⟩,Bool.and_false]
   have hgood:¬(cmpQ (os.getD i 0) (c.getD i 0:Rat)<0) ->∀j,j<i+1 ->¬cmpQ (os.getD j 0) (c.getD j 0:Rat)<0:=fun hng j hj' =>by
    rcases Nat.lt_or_ge j i with h3|h3
    · exact hj j h3
    · have:j=i:=by omega
      rw [this];exact hng
   refine QU (Qq (Qj (Q2 (Qj (Qx ?_)))));refine Qv J J J (Ql J J J sFracs (by omega) (rats_at (by omega) (by omega)) J ?_);refine Xe (n:=3) J J J Xn J J (Qb 0 J J zvFrac J J J (Qy J J J (Q7 3 J J J J J szFrac J J (Qz (Qq (Qj ?_))))));refine Qx (Qy J J J (Qz (Qq (Qj (Qj ?_)))));refine Qx (Qk 2 J (Q9 J J sInts.und (List.length_map ..) J (Qw ilss J J J J (Qz (Qq ?_)))));rw [e2];skip;refine Q1 J (fun h3=> ?_) (fun h3=> ?_)
   · refine Qx (Qk 2 J (Ql J J J sInts (by omega) (XK (by omega) (by omega)) J ?_));refine Xj J J J lInt J (Qy J J J (Qz (Qq (Qj ?_))));refine Qx (Qv J J J ?_);rw [e2];skip
     refine QJ goFFrom (From_int (c.getD i 0) (by omega) (by omega)) J J J J ?_
     refine Qv J J J (QV J J J J (QV J J J J (Qb 1 J J zvFrac J J J (Q7 3 J J J J J szFrac J J (Qy J J J (Qz (Qq (Qj ?_))))))));refine Qx (Qa (n:=3) J J J J J Xn J (Qa (n:=3) J J J J J Xn J (QJ goless (less_q (os.getD i 0) (c.getD i 0:Rat) b0 (SzQ.int b1)) J J J J (Qz (Qq ?_)))));refine Q1 J (fun h4=> ?_) (fun h4=> ?_)
     · refine Qj (Qx ?_);refine Qy J J J (Qz (Qq (Q0 (Q8 (QW (QW (Q8 (QW ?_))))))));refine QK [_] rfl (Qu J QQ) (by rw [hbad h4];rfl) J
     · refine QU (Qq (Qx ?_))
       refine Qw (iadd (by omega) (by omega)) J J J J ?_
       refine Qv J J J (Qz (Q5 ?_));refine Xv 1 (Xv 0 ?_);refine Q6 (i+1) (by omega) ⟨by omega,hgood h4⟩ (by exact QX J ⟨rfl,rfl,rfl,by simp only [Int.natCast_add];rfl,trivial⟩)
   · have ec:c.getD i 0=0:=by rw [List.getD_eq_getElem?_getD,List.getElem?_eq_none (by omega)];rfl
     refine QU (Qq (Qj (Qx ?_)));refine Qv J J J (QJ goFFrom (From_int 0 (by omega) (by omega)) J J J J ?_);refine Qv J J J (QV J J J J (QV J J J J (Qb 1 J J zvFrac J J J (Q7 3 J J J J J szFrac J J (Qy J J J (Qz (Qq (Qj ?_))))))));refine Qx (Qa (n:=3) J J J J J Xn J (Qa (n:=3) J J J J J Xn J (QJ goless (less_q (os.getD i 0) ((0:Int):Rat) b0 (SzQ.int (by decide))) J J J J ?_)));refine Qz (Qq ?_);refine Q1 J (fun h4=> ?_) (fun h4=> ?_)
     · refine Qj (Qx ?_);refine Qy J J J (Qz (Qq (Q0 (Q8 (QW (QW (Q8 (QW ?_))))))));refine QK [_] rfl (Qu J QQ) (by rw [hbad (by rw [ec];exact h4)];rfl) J
     · refine QU (Qq (Qx ?_))
       refine Qw (iadd (by omega) (by omega)) J J J J ?_
       refine Qv J J J (Qz (Q5 ?_));refine Xv 1 (Xv 0 ?_);refine Q6 (i+1) (by omega) ⟨by omega,hgood (by rw [ec];exact h4)⟩ (by exact QX J ⟨rfl,rfl,rfl,by simp only [Int.natCast_add];rfl,trivial⟩)
 · have hi' :i=os.length:=by omega
   refine Qi (Qq (Qj (Qx ?_)));refine Qy J J J (Qz (Qq (Q0 ?_)))
   refine QK [_] rfl (Qu J QQ) (by
    unfold covQ
    rw [decide_eq_true hle,List.all_eq_true.mpr (fun j hj2=>by rw [decide_eq_false (hj j (by have:=List.mem_range.mp hj2;omega))];rfl)];rfl) J
theorem SzQ.vf{q:Rat}(h:SzQ q):VF (ofQ q):=VF.q q h.n h.d
theorem colsQ_len(rs:List Rw)(ys:List Fr)(n:Nat):(colsQ rs ys n).length=n:=by simp [colsQ]
structure MulV (rs : List Rw) (ys : List Fr) : Prop where
  len : ys.length = rs.length
  vf : ∀ f ∈ ys, VF f
  nn : ∀ f ∈ ys, f.neg = false
theorem multipliers_any(rs:List Rw)(ys:List Fr)(h:MulV rs ys)(h64:rs.length<=64):Ok prog 155 [rowsC rs,fracsC ys] (boolC true):=by
 have hl:=h.len;have hC:=ContainsFunc_fracs ys _ (fun f=>f.neg) gomultipliers1 (fun f hf=>multipliers1_V f (h.vf f hf)) (by omega);rw [show ys.any (fun f=>f.neg)=false from List.any_eq_false.2 fun f hf=>by rw [h.nn f hf];decide] at hC
 refine Ok.enter func155 J _ ntmps155 J ?_
 intro S w;refine Qj (Qx ?_);refine Qy J J J (Qz (Qq (Qj ?_)));refine Qx (Qv J J J (Q9 J J sFracs.und (List.length_map ..) J (Qv J J J (Q9 J J sRows.und (List.length_map ..) J (Qw ieql J J J J (Qv J J J ?_))))));rw [decide_eq_true (show (ys.length:Int)=rs.length by omega)];refine Qv J J J (QJ goContainsFunc_fracs hC J J J J (Qr J J J (Qk 2 J (Qz (Qq (Q0 ?_))))));refine QK [_] rfl (Qu J QQ) J J
theorem fold_any(rs:List Rw)(ys:List Fr)(f:FuncId)(caps:List CT)(num:Rw ->Int)(hgo:InGo prog f)(hf:∀r∈rs,Ok prog f ([rowC r]++caps) (intC (num r)))(hl:rs.length<=64)(hn:∀r∈rs,(num r).natAbs<=4503599627370496)(H:MulV rs ys):
  Ok prog 156 [rowsC rs,fracsC ys, .fr (closT f caps)] (.fr (tupT [fracC (vlV (rs.map num) ys),intC (vlE (rs.map num) ys)])):=by
 have hlen:=H.len
 have hVal:=Value_any (rs.map num) ys (by rw [List.length_map];omega) (by omega) (fun i=>by
  rcases Nat.lt_or_ge i (rs.map num).length with h4|h4
  · obtain ⟨r,hr,e⟩:=List.mem_map.1 (Zc (z:=(0:Int)) h4);have:=hn r hr;rw [<- e];omega
  · rw [List.getD_eq_getElem?_getD,List.getElem?_eq_none (by omega)];decide) H.vf
 generalize vlV (rs.map num) ys=V at hVal ⊢;generalize vlE (rs.map num) ys=E at hVal ⊢
 refine Ok.enter func156 J _ ntmps156 J ?_
 intro S w;refine Qj (Qx ?_);refine Qb 0 J J zvFrac J J J (Qy J J J (Qz (Qq (Qj ?_))));refine Qx (Qy J J J (Qz (Qq (Qj (Qj ?_)))));refine Qx (Qv J J J (Q9 J J sRows.und (List.length_map ..) J (Qv J J J (Qz (Qq (Q2 ?_))))))
 refine ZY 8 1 3 1 J J J ?_
 skip
 refine Qn (α:=Nat) (fun i=>i<=rs.length)
  (fun i=>[(1, .ct (fracsC ys)),(2, .ct (.fr (closT f caps))),(6, .own 0),(8, .own 1),(11, .ct (rowsC rs)),(12, .ct (intC rs.length)),(13, .ct (intC i))])
  (fun i=>[(1, .row 3 1 (ints ((rs.take i).map num))),(0, .box 88 [.ex (.bool false), .ex (.slice none 0 0), .ex (.slice none 0 0)])]) (fun i=>rs.length - i) 0 (Nat.zero_le _) (by exact QX J ⟨rfl,rfl,rfl,rfl,rfl,rfl,rfl,trivial⟩) ?_
 intro i hi;dsimp only at hi ⊢;refine Qj (Qx ?_);refine Qw ilss J J J J (Qz (Qq (Qj ?_)));refine Q1 J (fun h=> ?_) (fun h=> ?_)
 · have e2:(i:Int).toNat=i:=Int.toNat_natCast i
   have hlt:i<rs.length:=by omega
   refine QU (Qq (Qj (Q2 (Qj (Qx ?_)))))
   refine Ql J J J sRows (by omega) (rows_at (by omega) (by omega)) J ?_
   refine Xe (n:=2) J J J lRow J J (Qb 2 J J zvRow J J J (Q7 2 J J J J J szRow J J (Qz (Qq ?_))));refine Qx (Qk 2 J (Qa (n:=2) J J J J J lRow J ?_));rw [e2];skip;refine Ops.callC hgo J (hf (rs.getD i rw0) (Zc hlt)) J J J J (X8 J J sInts J J J (Qo i (ints ((rs.take (i+1)).map num)) J J J J sInts (by simp [ints];omega) J (by omega) (by omega) (by rw [take_map_succ num rw0 hlt];simp [ints]) J ?_));refine Qy J J J (Qz (Qq ?_));refine Qx (Qw (iadd (by omega) (by omega)) J J J J ?_);refine Qv J J J (Qz (Q5 ?_));refine Xv 2 (Q6 (i+1) (by omega) (by omega) (by exact QX J ⟨rfl,rfl,rfl,rfl,rfl,rfl,by simp only [Int.natCast_add];rfl,trivial⟩))
 · have hi' :i=rs.length:=by omega
   have e:(rs.take i).map num=rs.map num:=by rw [hi',List.take_length]
   rw [e];refine ZQ 1 _ J (Xf _ _) noBor_sub (Qi (Qq (Qj (Qx ?_))));refine Qk 2 J (QJ goValue hVal J J J J (QV J J J J (QV J J J J (Q7 3 J J J J J szFrac J J (Qy J J J (Qz (Qq (Q0 ?_))))))));refine QK [_,_] rfl (Qd (n:=3) J J Xn J (Qu J QQ)) J J
def okC (n : Nat) (rs : List Rw) (ys : List Fr) : Bool := (List.range n).all (fun j => okV (rs.map fun r => r.cs.getD j 0) ys) && okV (rs.map fun r => r.b) ys
section
variable {n : Nat} {rs : List Rw} {ys : List Fr} {c : List Int}
theorem vl_ok{c:List Int}{ys:List Fr}(h:okV c ys=true):vlV c ys=ofQ (vsum c ys)/\ vlE c ys=0:=by unfold vlV vlE;rw [h];exact ⟨rfl,rfl⟩
theorem vl_no{c:List Int}{ys:List Fr}(h:okV c ys=false):vlV c ys=⟨false,0,0⟩/\ vlE c ys=5:=by unfold vlV vlE;rw [h];exact ⟨rfl,rfl⟩
theorem folds_any(hv:validR n rs=true)(H:MulV rs ys):
  (∀j:Nat,j<n ->Ok prog 156 [rowsC rs,fracsC ys, .fr (closT 157 [.fr (ptrT [intC j])])] (.fr (tupT [fracC (vlV (rs.map fun r=>r.cs.getD j 0) ys),intC (vlE (rs.map fun r=>r.cs.getD j 0) ys)])))/\
  Ok prog 156 [rowsC rs,fracsC ys, .ex (.func (.func 158) #[] #[])] (.fr (tupT [fracC (vlV (rs.map fun r=>r.b) ys),intC (vlE (rs.map fun r=>r.b) ys)])):=by
 obtain ⟨v1,v2,v3,v4⟩:=validR_spec hv;refine ⟨fun j hj=>fold_any rs ys _ _ (fun r=>r.cs.getD j 0) goCombine1 (fun r _=>Combine1_ok j r) v3 (fun r hr=> ?_) H,?_⟩
 · rcases Nat.lt_or_ge j r.cs.length with h4|h4
   · have:=(v4 r hr).2.1 _ (Zc (z:=(0:Int)) h4);omega
   · rw [List.getD_eq_getElem?_getD,List.getElem?_eq_none (by omega)];decide
 · exact (fold_any rs ys _ [] (fun r=>r.b) goCombine2 (fun r _=>Combine2_ok r) v3 (fun r hr=>(v4 r hr).2.2) H).weak ⟨Ze,Ze,w_fun,trivial⟩
theorem Combine_fit(hv:validR n rs=true)(H:MulV rs ys)(hok:okC n rs ys=true):
  Ok prog 93 [intC n,rowsC rs,fracsC ys] (.fr (tupT [ratsC (colsQ rs ys n),ratC (bsQ rs ys),intC 0])):=by
 obtain ⟨v1,v2,v3,v4⟩:=validR_spec hv;have hV:=LValid_ok n rs (by omega) (fun r hr=>by have:=(v4 r hr).1;omega);rw [hv] at hV;have hM:=multipliers_any rs ys H v3;obtain ⟨hF,hB⟩:=folds_any hv H;unfold okC at hok;rw [Bool.and_eq_true,List.all_eq_true] at hok;rw [(vl_ok hok.2).1,(vl_ok hok.2).2] at hB
 have hF:∀j:Nat,j<n ->Ok prog 156 [rowsC rs,fracsC ys, .fr (closT 157 [.fr (ptrT [intC j])])] (.fr (tupT [ratC (colQ rs ys j),intC 0])):=fun j hj=>by
  have h:=hF j hj;have h2:=vl_ok (hok.1 j (List.mem_range.2 hj));rw [h2.1,h2.2] at h;exact h
 have hB:Ok prog 156 [rowsC rs,fracsC ys, .ex (.func (.func 158) #[] #[])] (.fr (tupT [ratC (bsQ rs ys),intC 0])):=hB;clear hok
 refine Ok.enter func93 J _ ntmps93 J ?_
 intro S w;refine Qj (Qx ?_);refine Qy J J J (Qb 0 J J zvFrac J J J (Qy J J J (Qz (Qq (Qj (Qj ?_))))));refine Qx (Qk 2 J (QJ goLValid hV J J J J (Qr J J J (Qz (Qq (Qt J (QU (Qq (Qj (Qj ?_))))))))));refine Qx (Qk 2 J (QJ gomultipliers hM J J J J (Qr J J J (Qz (Qq (Qt J (QU (Qq (Qj ?_)))))))));refine Qx (Qy J J J (Qz (Qq (Qj (Qj ?_)))));refine Qx (Qk 2 J (Qz (Qq (Q2 ?_))))
 refine ZY 9 1 88 3 J J J ?_
 skip
 refine Qn (α:=Nat) (fun i=>i<=n)
  (fun i=>[(1, .ct (rowsC rs)),(2, .ct (fracsC ys)),(7, .own 0),(9, .own 1),(25, .ct (intC n)),(26, .ct (intC i))])
  (fun i=>[(1, .row 88 3 (rts (colsQ rs ys i))),(0, .box 88 [.ex (.bool false), .ex (.slice none 0 0), .ex (.slice none 0 0)])]) (fun i=>n - i) 0 (Nat.zero_le _) (by exact QX J ⟨rfl,rfl,rfl,rfl,rfl,rfl,trivial⟩) ?_
 intro i hi;dsimp only at hi ⊢;refine Qj (Qx ?_);refine Qw ilss J J J J (Qz (Qq (Qj ?_)));refine Q1 J (fun h=> ?_) (fun h=> ?_)
 · refine QU (Qq (Qj (Q2 (Qj (Qx ?_)))));refine Qv J J J (Qb 2 J J zvInt J J J (Ops.st1O J J J J J zInt (Qz (Qq (Qj ?_)))));refine Qx (Qk 2 J (Zk 2 _ J J noBor_sub (Ops.makeFunc J J J (QJ gofold (hF i (by omega)) J J J J ?_))));refine Qv J J J (QV J J J J (QV J J J J (Qb 2 J J zvFrac J J J (Q7 3 J J J J J szFrac J J (Qy J J J (Qz (Qq (Qj (Qj ?_)))))))));refine Qx (Qv J J J (Qw ineq J J J J (Qz (Qq (Qt J (QU (Qq ?_)))))));refine Qx (Qv J J J (Qa (n:=3) J J J J J Xn J (Za (n:=3) J J sFracs J J (by decide) J ?_)))
   refine Qo i (rts (colsQ rs ys (i+1))) J J J J sFracs (by rw [rts_len];simp [colsQ]) J (by omega) (by omega) (by unfold colsQ;rw [List.range_succ,List.map_append];exact rts_snoc _ _) J ?_
   refine Qy J J J (Qz (Qq ?_));refine Qx (Qw (iadd (by omega) (by omega)) J J J J ?_);refine Qv J J J (Qz (Q5 ?_));refine Xv 2 (Q6 (i+1) (by omega) (by omega) (by exact QX J ⟨rfl,rfl,rfl,rfl,rfl,by simp only [Int.natCast_add];rfl,trivial⟩))
 · have hi' :i=n:=by omega
   subst hi';refine ZQ 1 _ J (rts_frozen _ _) noBor_sub (Qi (Qq (Qj (Qx ?_))));refine Qk 2 J (QJ gofold hB J J J J (Qv J J J (QV J J J J (QV J J J J (Qb 1 J J zvFrac J J J (Q7 3 J J J J J szFrac J J (Qy J J J (Qz (Qq (Qj (Qj ?_)))))))))));refine Qx (Qv J J J (Qw ineq J J J J (Qz (Qq (Qt J (QU (Qq (Qj ?_))))))));refine Xy mixed 3 (.p 0 (.p 2 (.f 1 (.a 3 (.p 4 .done))))) (by kernel_rfl) (fun K hK=> ?_);refine Qk 2 J (Qa (n:=3) J J J J J Xn J (Q7 3 J J J J J szFrac J J (Qy J J J (Qz (hK _ _ (Qq (Q0 ?_)))))));clear hK K;refine QK [_,_,_] rfl (Qu J (Qd (n:=3) J J Xn J (Qu J QQ))) J J
theorem Combine_long(hv:validR n rs=true)(H:MulV rs ys)(hok:okC n rs ys=false):
  Ok prog 93 [intC n,rowsC rs,fracsC ys] (.fr (tupT [ratsC [],fracC ⟨false,0,0⟩,intC 5])):=by
 obtain ⟨v1,v2,v3,v4⟩:=validR_spec hv;have hV:=LValid_ok n rs (by omega) (fun r hr=>by have:=(v4 r hr).1;omega);rw [hv] at hV;have hM:=multipliers_any rs ys H v3;obtain ⟨hF,hB⟩:=folds_any hv H;obtain ⟨z,hz⟩:∃z:Fr,z=⟨false,0,0⟩:=⟨_,rfl⟩;rw [<- hz]
 have hall:(∀j,j<n ->okV (rs.map fun r=>r.cs.getD j 0) ys=true) ->okV (rs.map fun r=>r.b) ys=false:=fun h=>by
  unfold okC at hok;rw [List.all_eq_true.2 fun j hj=>h j (List.mem_range.1 hj),Bool.true_and] at hok;exact hok
 clear hok
 refine Ok.enter func93 J _ ntmps93 J ?_
 intro S w;refine Qj (Qx ?_);refine Qy J J J (Qb 0 J J zvFrac J J J (Qy J J J (Qz (Qq (Qj (Qj ?_))))));refine Qx (Qk 2 J (QJ goLValid hV J J J J (Qr J J J (Qz (Qq (Qt J (QU (Qq (Qj (Qj ?_))))))))));refine Qx (Qk 2 J (QJ gomultipliers hM J J J J (Qr J J J (Qz (Qq (Qt J (QU (Qq (Qj ?_)))))))));refine Qx (Qy J J J (Qz (Qq (Qj (Qj ?_)))));refine Qx (Qk 2 J (Qz (Qq (Q2 ?_))))
 refine ZY 9 1 88 3 J J J ?_
 skip
 refine Qn (α:=Nat) (fun i=>i<=n/\ ∀j,j<i ->okV (rs.map fun r=>r.cs.getD j 0) ys=true)
  (fun i=>[(1, .ct (rowsC rs)),(2, .ct (fracsC ys)),(7, .own 0),(9, .own 1),(25, .ct (intC n)),(26, .ct (intC i))])
  (fun i=>[(1, .row 88 3 (rts (colsQ rs ys i))),(0, .box 88 [.ex (.bool false), .ex (.slice none 0 0), .ex (.slice none 0 0)])]) (fun i=>n - i) 0 ⟨Nat.zero_le _,fun j h=>absurd h (Nat.not_lt_zero j)⟩ (by exact QX J ⟨rfl,rfl,rfl,rfl,rfl,rfl,trivial⟩) ?_
 intro i ⟨hi,hj⟩;dsimp only at hi hj ⊢;refine Qj (Qx ?_);refine Qw ilss J J J J (Qz (Qq (Qj ?_)));refine Q1 J (fun h=> ?_) (fun h=> ?_)
 · have hFi:=hF i (by omega);refine QU (Qq (Qj (Q2 (Qj (Qx ?_)))));refine Qv J J J (Qb 2 J J zvInt J J J (Ops.st1O J J J J J zInt (Qz (Qq (Qj ?_)))));refine Qx (Qk 2 J (Zk 2 _ J J noBor_sub (Ops.makeFunc J J J ?_)))
   cases ho:okV (rs.map fun r=>r.cs.getD i 0) ys with
   |false=>
    rw [(vl_no ho).1,(vl_no ho).2] at hFi;refine QJ gofold hFi J J J J (Qv J J J (QV J J J J (QV J J J J (Qb 2 J J zvFrac J J J (Q7 3 J J J J J szFrac J J (Qy J J J (Qz (Qq (Qj (Qj ?_))))))))));refine Qx (Qv J J J (Qw ineq J J J J (Qz (Qq (Xk J (Qj ?_))))));refine Qx (Qm J bFrac J .nil J (Qk 2 J (Q7 3 J J J J J szFrac J J (Qy J J J (Qz (Qq (Q0 (QW (Q8 (QW (QW (Q8 (QW ?_)))))))))))));refine QK [_,_,_] rfl (X1 (Yv (n:=3)) (Qu J (X1 (w_agg (frz_cells _ hz)) (Qd (n:=3) J J Xn J (Qu J QQ))))) J J
   |true=>
    rw [(vl_ok ho).1,(vl_ok ho).2] at hFi;refine QJ gofold hFi J J J J (Qv J J J (QV J J J J (QV J J J J (Qb 2 J J zvFrac J J J (Q7 3 J J J J J szFrac J J (Qy J J J (Qz (Qq (Qj (Qj ?_))))))))));refine Qx (Qv J J J (Qw ineq J J J J (Qz (Qq (Qt J (QU (Qq ?_)))))));refine Qx (Qv J J J (Qa (n:=3) J J J J J Xn J (Za (n:=3) J J sFracs J J (by decide) J ?_)))
    refine Qo i (rts (colsQ rs ys (i+1))) J J J J sFracs (by rw [rts_len];simp [colsQ]) J (by omega) (by omega) (by unfold colsQ;rw [List.range_succ,List.map_append];exact rts_snoc _ _) J ?_
    refine Qy J J J (Qz (Qq ?_));refine Qx (Qw (iadd (by omega) (by omega)) J J J J ?_);refine Qv J J J (Qz (Q5 ?_))
    refine Xv 2 ?_
    refine Q6 (i+1) (by omega) ⟨by omega,fun j hj' =>by
     by_cases e:j=i
     · subst e;exact ho
     · exact hj j (by omega)⟩ (by exact QX J ⟨rfl,rfl,rfl,rfl,rfl,by simp only [Int.natCast_add];rfl,trivial⟩)
 · have hi' :i=n:=by omega
   subst hi';have ho:=hall hj;rw [(vl_no ho).1,(vl_no ho).2] at hB;refine ZQ 1 _ J (rts_frozen _ _) noBor_sub (Qi (Qq (Qj (Qx ?_))));refine Qk 2 J (QJ gofold hB J J J J (Qv J J J (QV J J J J (QV J J J J (Qb 1 J J zvFrac J J J (Q7 3 J J J J J szFrac J J (Qy J J J (Qz (Qq (Qj (Qj ?_)))))))))));refine Qx (Qv J J J (Qw ineq J J J J (Qz (Qq (Xk J (Qj ?_))))));refine Qx (Qm J bFrac J .nil J (Qk 2 J (Q7 3 J J J J J szFrac J J (Qy J J J (Qz (Qq (Q0 (QW ?_))))))));refine QK [_,_,_] rfl (X1 (Yv (n:=3)) (Qu J (X1 (w_agg (frz_cells _ hz)) (Qd (n:=3) J J Xn J (Qu J QQ))))) J J
theorem okV_sz{c:List Int}{xs:List Fr}(h:okV c xs=true):SzQ (vsum c xs):=by
 have:=fitF_spec.1 (okK_sz h);exact ⟨this.1,this.2⟩
theorem okC_cols(h:okC n rs ys=true):(∀y∈colsQ rs ys n,SzQ y)/\ SzQ (bsQ rs ys):=by
 unfold okC at h;rw [Bool.and_eq_true,List.all_eq_true] at h;refine ⟨fun y hy=> ?_,okV_sz h.2⟩;obtain ⟨j,hj,rfl⟩:=List.mem_map.1 hy;exact okV_sz (h.1 j hj)
def cvA (n : Nat) (rs : List Rw) (c : List Int) (ys : List Fr) : Bool := okC n rs ys && covQ (colsQ rs ys n) c && decide (flE (ofQ (bsQ rs ys)) = 0)
def cvV (n : Nat) (rs : List Rw) (c : List Int) (ys : List Fr) : Int := if cvA n rs c ys then flV (ofQ (bsQ rs ys)) else 0
theorem Bounds_fit(os:List Rat)(bs:Rat)(h1:Ok prog 93 [intC n,rowsC rs,fracsC ys] (.fr (tupT [ratsC os,ratC bs,intC 0])))(hol:os.length<=64)(ho:∀y∈os,SzQ y)(hb:SzQ bs)(hlc:c.length<=64)(hc:∀y∈c,y.natAbs<=4503599627370496):
  Ok prog 94 [intC n,rowsC rs,intsC c,fracsC ys,ratC bs] (boolC (covQ os c)):=by
 have h2:=covers_q os c hol hlc ho hc;have h3:=less_q bs bs hb hb;rw [cmpQ_self,decide_eq_false (Int.lt_irrefl _)] at h3
 refine Ok.enter func94 J _ ntmps94 J ?_
 intro S w;refine Qj (Qx ?_);refine Xx 0 J J J J J J J (Qy J J J (Qz (Qq (Qj ?_))));refine Qx (Qk 3 J (QJ goCombine h1 J J J J (Qv J J J (QV J J J J (QV J J J J (QV J J J J (Qb 1 J J zvFrac J J J (Qy J J J (Q7 3 J J J J J szFrac J J (Qy J J J (Qz (Qq (Qj ?_)))))))))))));refine Qx (Qv J J J (Qw ieql J J J J (Qv J J J (Qa (n:=3) J J J J J Xn J (QJ goFValid (FValid_V _ hb.vf) J J J J (Qk 4 J (QJ gocovers h2 J J J J (Qk 2 J (Xc 33 J (fun h=> ?_) (fun h=> ?_))))))))))
 · refine Qa (n:=3) J J J J J Xn J (Qa (n:=3) J J J J J Xn J (QJ goless h3 J J J J (Qr J J J (Qk 2 J (Qz (Qq (Q0 ?_)))))));refine QK [_] rfl (Qu J QQ) (by rw [h];rfl) J
 · refine Qk 6 J (Qz (Qq (Q0 ?_)));refine QK [_] rfl (Qu J QQ) (by rw [h];rfl) J
theorem Ceiling_any(hv:validR n rs=true)(H:MulV rs ys)(hlc:c.length<=64)(hc:∀y∈c,y.natAbs<=4503599627370496):
  Ok prog 51 [intC n,rowsC rs,intsC c,fracsC ys] (.fr (tupT [intC (cvV n rs c ys),boolC (cvA n rs c ys)])):=by
 cases hok:okC n rs ys with
 |false=>
  have h1:=Combine_long hv H hok
  have e1:cvA n rs c ys=false:=by unfold cvA;rw [hok];rfl
  have e2:cvV n rs c ys=0:=by unfold cvV;rw [e1];rfl
  rw [e1,e2];generalize (⟨false,0,0⟩:Fr)=z at h1
  refine Ok.enter func51 J _ ntmps51 J ?_
  intro S w;refine Qj (Qx ?_);refine Qk 2 J (Qz (Qq (Qj ?_)));refine Qx (Qk 3 J (QJ goCombine h1 J J J J (Qv J J J (QV J J J J (QV J J J J (QV J J J J (Qb 0 J J zvFrac J J J (Qy J J J (Q7 3 J J J J J szFrac J J (Qy J J J (Qz (Qq (Qj (Qj ?_))))))))))))));refine Qx (Qv J J J (Qw ineq J J J J (Qk 9 J (Qz (Qq (Xk J (Qj ?_)))))));refine Qx (Qk 2 J (Qz (Qq (Q0 (QW ?_)))));refine QK [_,_] rfl (Qu J (Qu J QQ)) J J
 |true=>
  obtain ⟨ho,hb⟩:=okC_cols hok;have h1:=Combine_fit hv H hok;have h2:=Bounds_fit (c:=c) _ _ h1 (by rw [colsQ_len];have:=(validR_spec hv).2.1;omega) ho hb hlc hc;have h3:=FFloor_any (ofQ (bsQ rs ys)) (by have:=hb.n;omega) (ofQ_den _) (by have:=hb.d;omega)
  have e1:cvA n rs c ys=(covQ (colsQ rs ys n) c&&decide (flE (ofQ (bsQ rs ys))=0)):=by unfold cvA;rw [hok];rfl
  have e2:cvV n rs c ys=if cvA n rs c ys then flV (ofQ (bsQ rs ys)) else 0:=rfl
  clear hok;generalize cvV n rs c ys=V at*;generalize cvA n rs c ys=A at*;generalize covQ (colsQ rs ys n) c=cv at*;generalize colsQ rs ys n=os at*;generalize flV (ofQ (bsQ rs ys))=fv at*;generalize flE (ofQ (bsQ rs ys))=fe at*;generalize bsQ rs ys=bs at*
  refine Ok.enter func51 J _ ntmps51 J ?_
  intro S w;refine Qj (Qx ?_);refine Qk 2 J (Qz (Qq (Qj ?_)));refine Qx (Qk 3 J (QJ goCombine h1 J J J J (Qv J J J (QV J J J J (QV J J J J (QV J J J J (Qb 0 J J zvFrac J J J (Qy J J J (Q7 3 J J J J J szFrac J J (Qy J J J (Qz (Qq (Qj (Qj ?_))))))))))))));refine Qx (Qv J J J (Qw ineq J J J J (Qk 5 J (Qa (n:=3) J J J J J Xn J (QJ goBounds h2 J J J J (Qr J J J (Z1 J J J J (Qz (Qq ?_)))))))));refine Xa J (fun h=> ?_) (fun h=> ?_)
  · have h' :cv=false:=by simpa using h
    subst h';rw [Bool.false_and] at e1;subst e1;have e2:V=0:=e2;subst e2;refine Qj (Qx ?_);refine Qk 2 J (Qz (Qq (Q0 (QW ?_))));refine QK [_,_] rfl (Qu J (Qu J QQ)) J J
  · have h' :cv=true:=by simpa using h
    subst h';rw [Bool.true_and] at e1;refine QU (Qq (Qj (Qx ?_)));refine Qa (n:=3) J J J J J Xn J (QJ goFFloor h3 J J J J (Qv J J J (QV J J J J (QV J J J J (Qk 2 J (Qz (Qq (Qj (Qj ?_)))))))));refine Qx (Qv J J J (Qw ineq J J J J (Qz (Qq ?_))));refine Q1 J (fun h4=> ?_) (fun h4=> ?_)
    · rw [decide_eq_false h4] at e1;subst e1;have e2:V=0:=e2;subst e2;refine Qj (Qx ?_);refine Qk 2 J (Qz (Qq (Q0 (QW ?_))));refine QK [_,_] rfl (Qu J (Qu J QQ)) J J
    · rw [decide_eq_true (Classical.not_not.1 h4)] at e1;subst e1;have e2:V=fv:=e2;subst e2;refine QU (Qq (Qj (Qx ?_)));refine Qk 3 J (Qz (Qq (Q0 ?_)));refine QK [_,_] rfl (Qu J (Qu J QQ)) J J
end
end Go.Proofs.YtojkdfilabmafaaGreat
namespace Go.Proofs.YtojkdfilabmafaaGreat
open Go.Own Go.Limbs Go.Det Go.Proofs.Tryz
theorem ptl_mem{n:Nat}{X:Nat ->Int}{D:Int}{f:Fr}(h:f∈ptl n X D):∃k,k<n/\ f=ofQ (shq (X k) D):=by
 obtain ⟨k,hk,rfl⟩:=List.mem_map.1 h;exact ⟨k,List.mem_range.1 hk,rfl⟩
theorem ofQ_neg0{q:Rat}(h:0<=q.num):(ofQ q).neg=false:=decide_eq_false (by omega)
theorem getD_mapZ{α:Type}(f:α ->Int)(z:α){xs:List α}{k:Nat}(h:k<xs.length):(xs.map f).getD k 0=f (xs.getD k z):=by
 simp [List.getD_eq_getElem?_getD,List.getElem?_map,List.getElem?_eq_getElem h]
theorem shq_eq{a b D E:Int}(hD:0<D)(hE:0<E)(h:D*b=E*a):shq a D=shq b E:=by
 unfold shq;obtain ⟨d,rfl⟩:∃d:Nat,D=d:=⟨D.toNat,by omega⟩;obtain ⟨e,rfl⟩:∃e:Nat,E=e:=⟨E.toNat,by omega⟩;simp only [Int.natAbs_natCast];rw [Rat.mkRat_eq_iff (by omega) (by omega)];rw [Int.mul_comm a,<- h,Int.mul_comm]
theorem shq_inj{a b D:Int}(hD:0<D)(h:shq a D=shq b D):a=b:=by
 unfold shq at h;rw [Rat.mkRat_eq_iff (by omega) (by omega)] at h;exact Int.eq_of_mul_eq_mul_right (by omega) h
theorem shq_int{b D:Int}(hD:0<D):shq (D*b) D=(b:Rat):=Rat.le_antisymm (shq_le_int hD (Int.le_refl _)) (int_le_shq hD (Int.le_refl _))
theorem common:∀(xs:List Fr),(∀f∈xs,f.neg=false) ->(∀f∈xs,0<f.den) ->∃(D:Int) (X:Nat ->Int),0<D/\ (∀j,0<=X j)/\ ∀j,j<xs.length ->qv (xs.getD j fr0)=shq (X j) D
 | [],_,_=>⟨1,fun _=>0,by decide,fun _=>Int.le_refl _,fun j h=>absurd h (Nat.not_lt_zero j)⟩
 |f::xs,hn,hd=>by
  obtain ⟨D,X,h1,h2,h3⟩:=common xs (fun g hg=>hn g (List.mem_cons_of_mem _ hg)) (fun g hg=>hd g (List.mem_cons_of_mem _ hg))
  have f0:=hd f (List.mem_cons_self ..)
  have fn:=hn f (List.mem_cons_self ..)
  have hp:0<D*(f.den:Int):=Int.mul_pos h1 (by omega)
  refine ⟨D*f.den,fun j=>match j with|0=>D*f.num|j+1=>f.den*X j,hp,fun j=> ?_,fun j hj=> ?_⟩
  · cases j with
    |zero=>exact Int.mul_nonneg (by omega) (by omega)
    |succ j=>exact Int.mul_nonneg (by omega) (h2 j)
  · cases j with
    |zero=>
     show qv f=_
     have e:qv f=shq f.num f.den:=by unfold qv shq;rw [fn];rfl
     rw [e]
     exact shq_eq (by omega) hp (by grind)
    |succ j=>
     show qv (xs.getD j fr0)=_
     rw [h3 j (by simpa using hj)]
     exact shq_eq h1 hp (by grind)
theorem psum_com(c:List Int)(xs:List Fr){n:Nat}{X:Nat ->Int}{D:Int}(h:∀j,j<n ->qv (xs.getD j fr0)=shq (X j) D):∀k,k<=n ->psum c xs k=shq (sm (fun j=>c.getD j 0*X j) k) D
 |0,_=>by simp [psum,sm,shq_zero]
 |k+1,hk=>by
  simp only [psum,sm]
  rw [psum_com c xs h k (by omega),h k (by omega),shq_add,shq_mul,Rat.mul_comm]
theorem vsum_com(c:List Int)(xs:List Fr){n:Nat}{X:Nat ->Int}{D:Int}(hl:xs.length=n)(h:∀j,j<n ->qv (xs.getD j fr0)=shq (X j) D)(hc:c.length<=n):vsum c xs=shq (sm (fun j=>c.getD j 0*X j) n) D:=by
 unfold vsum;rw [hl,Nat.min_eq_left hc,psum_com c xs h _ hc,sm_tail _ hc fun k hk=>by rw [getD_ge hk,Int.zero_mul]]
theorem flE_fl{f:Fr}(h:flE f=0)(hd:0<f.den):flV f=sg f.neg f.num/(f.den:Int):=by
 have hz:=floor_sg f.neg f.num f.den hd;unfold flE intE at h;unfold flV;split at h
 · rename_i h1
   rw [if_pos h1];exact hz
 · cases h
theorem ge_of_shq{a D b:Int}(hD:0<D)(h:(b:Rat)<=shq a D):D*b<=a:=by
 rcases Int.le_total (D*b) a with h1|h1
 · exact h1
 · have:=Rat.le_antisymm (shq_le_int hD h1) h;rw [<- shq_int hD] at this;rw [<- shq_inj hD this];exact Int.le_refl _
theorem le_fl{r s D:Int}(hD:0<D)(h:D*r<=s):r<=sg (ofQ (shq s D)).neg (ofQ (shq s D)).num/((ofQ (shq s D)).den:Int):=by
 obtain ⟨d,rfl⟩:∃d:Nat,D=d:=⟨D.toNat,by omega⟩
 have e:shq s (d:Int)=mkRat s d:=by unfold shq;rw [Int.natAbs_natCast]
 rw [e,ofQ_sg];have hr:=mkRat_rel s (d:=d) (by omega);have hp:=(mkRat s d).den_pos;have hd:(ofQ (mkRat s d)).den=(mkRat s d).den:=rfl;rw [hd];generalize (mkRat s d).den=q at*;generalize (mkRat s d).num=p at*;refine Int.le_ediv_of_mul_le (by omega) (Int.le_of_mul_le_mul_right (a:=(d:Int)) ?_ hD);rw [<- hr];have:=Int.mul_le_mul_of_nonneg_right h (show 0<=(q:Int) by omega);rw [show r*(q:Int)*d=d*r*q by grind];exact this
section
variable {n : Nat} {rs : List Rw} {ys : List Fr} {c : List Int}
theorem mul_com(H:MulV rs ys):∃(D:Int) (Y:Nat ->Int),0<D/\ (∀i,0<=Y i)/\ bsQ rs ys=shq (sm (fun i=>cb rs i*Y i) rs.length) D/\ ∀j,colQ rs ys j=shq (sm (fun i=>ca rs i j*Y i) rs.length) D:=by
 obtain ⟨D,Y,h1,h2,h3⟩:=common ys H.nn (fun f hf=>(H.vf f hf).pos);rw [H.len] at h3;refine ⟨D,Y,h1,h2,?_,fun j=> ?_⟩
 · unfold bsQ;rw [vsum_com _ ys H.len h3 (by rw [List.length_map];exact Nat.le_refl _)]
   congr 1
   exact Xh fun i hi=>by rw [getD_mapZ (fun r=>r.b) rw0 hi];rfl
 · unfold colQ;rw [vsum_com _ ys H.len h3 (by rw [List.length_map];exact Nat.le_refl _)]
   congr 1
   exact Xh fun i hi=>by rw [getD_mapZ (fun r=>r.cs.getD j 0) rw0 hi];rfl
theorem covQ_at(h:covQ (colsQ rs ys n) c=true){j:Nat}(hj:j<n):(c.getD j 0:Rat)<=colQ rs ys j:=by
 have hl:(colsQ rs ys n).length=n:=by simp [colsQ]
 unfold covQ at h;rw [Bool.and_eq_true,List.all_eq_true] at h;have h2:=h.2 j (List.mem_range.2 (by omega))
 have e:(colsQ rs ys n).getD j 0=colQ rs ys j:=by
  unfold colsQ;simp [List.getD_eq_getElem?_getD,List.getElem?_map,hj]
 rw [e,Bool.not_eq_true',decide_eq_false_iff_not,cmpQ_neg,Rat.not_lt] at h2;exact h2
theorem cv_sound(H:MulV rs ys)(h:cvA n rs c ys=true){X:Nat ->Int}(hX:Feas n rs 1 X):rsum n c X<=cvV n rs c ys:=by
 have hv:cvV n rs c ys=flV (ofQ (bsQ rs ys)):=by unfold cvV;rw [h];rfl
 rw [hv];unfold cvA at h;rw [Bool.and_eq_true,Bool.and_eq_true,decide_eq_true_eq] at h;obtain ⟨⟨_,h2⟩,h3⟩:=h;obtain ⟨D,Y,hD,hY,hb,hc⟩:=mul_com H
 have hd:Dual n rs c D Y:=⟨hD,fun i _=>hY i,fun j hj=>by
  have:=covQ_at h2 hj;rw [hc] at this
  exact ge_of_shq hD this⟩
 have w:=weak hX hd;rw [Int.one_mul] at w;rw [flE_fl h3 (ofQ_den _),hb];exact le_fl hD w
end
attribute [local irreducible] Go.Own.Fin Ok OkB OkF OkL OkM OkN OkT Ops St
theorem fOu4:fldInfo prog 100 4=some (6,some 1):=by kernel_rfl
theorem goProve:InGo prog 19:=InGo.of func19 rfl (by decide)
theorem lFracs1:Ld1 prog 60:=Ld1.of _ underlying60 rfl
theorem Prove_ok(l:List Rs)(mo qu:Int)(w:Wr)(O1 O2:Oc){p:Int × Int}{e:Int}(hE:Ok prog 43 [rssC l,tiC mo qu,wrC w] (.fr (tupT [ocC O1,ocC O2,ivC p,intC e]))):
  Ok prog 19 [rssC l,tiC mo qu,wrC w] (.fr (tupT [fracsC O1.dual,fracsC O2.dual,intC e])):=by
 obtain ⟨q1,⟨g1,m1,d1⟩,o1,y1,u1⟩:=O1;obtain ⟨q2,⟨g2,m2,d2⟩,o2,y2,u2⟩:=O2
 refine Ok.enter func19 J _ ntmps19 J ?_
 intro S w0;refine Qj (Qx (Xx 3 J J J J J J J (Xx 4 J J J J J J J (Qk 3 J (Qz (Qq (Qj ?_)))))));refine Qx (Qv J J J (Qa (n:=2) J J J J J lTi J (Qa (n:=2) J J J J J YK J (QJ goends hE J J J J (Qv J J J (QV J J J J (QV J J J J (QV J J J J (QV J J J J (Qb 5 J J zvOut J J J (Qb 6 J J zvOut J J J (Qb 7 J J zvIv J J J (Q7 7 J J J J J szOut J J (Q7 7 J J J J J szOut J J (Q7 2 J J J J J szIv J J (Qy J J J (Qz (Qq (Qj ?_)))))))))))))))))));refine Xy mixed 8 (.p 0 (.p 2 (.p 4 (.f 1 (.p 5 (.f 3 (.p 6 (.p 7 .done)))))))) (by kernel_rfl) (fun K hK=> ?_);refine QY J J J fOu4 J (QY J J J fOu4 J (Qv J J J (QZ J J J J J lFracs1 J (Qy J J J (QZ J J J J J lFracs1 J (Qk 2 J (Qz (hK _ _ (Qq (Q0 ?_))))))))));clear hK K;refine QK [_,_,_] rfl (Qu J (Qu J (Qu J QQ))) J J
def ckF (A B : Bool) (h lw : Int) (p : Int × Int) : Bool := A && B && decide (h ≤ p.2) && decide (lw ≤ -p.1)
def ckB (vs : List Wr) (rs : List Rw) (w : Wr) (p : Int × Int) (lo up : List Fr) : Bool :=
  if min p.1 p.2 < -4503599627370496 ∨ 4503599627370496 < max p.1 p.2 ∨ w ∉ vs then false
  else ckF (cvA vs.length rs (unL vs.length (posD vs w) 1) up) (cvA vs.length rs (unL vs.length (posD vs w) (-1)) lo) (cvV vs.length rs (unL vs.length (posD vs w) 1) up) (cvV vs.length rs (unL vs.length (posD vs w) (-1)) lo) p
theorem unL_small{n k:Nat}(hk:k<n)(hn:n<=16){f:Int}(hf:f=1 \/f= -1):(unL n k f).length<=64/\ ∀y∈unL n k f,y.natAbs<=4503599627370496:=by
 refine ⟨by unfold unL;rw [List.length_set,List.length_replicate];omega,fun y hy=> ?_⟩;unfold unL at hy;rcases List.mem_or_eq_of_mem_set hy with h|h
 · rw [List.eq_of_mem_replicate h];decide
 · rw [h];rcases hf with rfl|rfl <;>decide
theorem goCheck:InGo prog 21:=InGo.of func21 rfl (by decide)
theorem Check_ok(l:List Rs)(hl:l.length<=10000)(mo qu:Int)(w:Wr)(p:Int × Int)(lo up:List Fr)(h0:(rwO l mo qu).2.2=0)(hu:Up cmpW (vrO l).1)(hvl:(vrO l).1.length<=16)(hv:validR (vrO l).1.length (rwO l mo qu).1=true)
  (hlo:MulV (rwO l mo qu).1 lo) (hup:MulV (rwO l mo qu).1 up):
  Ok prog 21 [rssC l,tiC mo qu,wrC w,ivC p,fracsC lo,fracsC up] (boolC (ckB (vrO l).1 (rwO l mo qu).1 w p lo up)):=by
 have hR:=DRows_ok l hl mo qu;have hV:=Jq l hl;have hS:=BSearch_ok (vrO l).1 w hu (by omega);have hpk:w∈(vrO l).1 ->_:=(posD_at hu).1
 have hno:min p.1 p.2< -4503599627370496 \/4503599627370496<max p.1 p.2 \/w ∉ (vrO l).1 ->ckB (vrO l).1 (rwO l mo qu).1 w p lo up=false:=fun h=>if_pos h
 have hyes:¬(min p.1 p.2< -4503599627370496 \/4503599627370496<max p.1 p.2 \/w ∉ (vrO l).1) ->ckB (vrO l).1 (rwO l mo qu).1 w p lo up=ckF (cvA (vrO l).1.length (rwO l mo qu).1 (unL (vrO l).1.length (posD (vrO l).1 w) 1) up) (cvA (vrO l).1.length (rwO l mo qu).1 (unL (vrO l).1.length (posD (vrO l).1 w) (-1)) lo) (cvV (vrO l).1.length (rwO l mo qu).1 (unL (vrO l).1.length (posD (vrO l).1 w) 1) up) (cvV (vrO l).1.length (rwO l mo qu).1 (unL (vrO l).1.length (posD (vrO l).1 w) (-1)) lo) p:=fun h=>if_neg h
 generalize ckB (vrO l).1 (rwO l mo qu).1 w p lo up=R at hno hyes ⊢;rw [h0] at hR;generalize (rwO l mo qu).1=rs at*;generalize (rwO l mo qu).2.1=is at hR;generalize (vrO l).2=ve at hV;generalize posD (vrO l).1 w=k at*;generalize (vrO l).1=vs at*;obtain ⟨pl,ph⟩:=p;dsimp only at hno hyes
 refine Ok.enter func21 J _ ntmps21 J ?_
 intro S w0;refine Qj (Qx (Xx 3 J J J J J J J (Xx 4 J J J J J J J (Xx 5 J J J J J J J (Qy J J J (Qz (Qq (Qj ?_))))))));refine Qx (Qv J J J (Qa (n:=2) J J J J J lTi J (QJ goDRows hR J J J J (Qv J J J (QV J J J J (QV J J J J (QV J J J J (Qk 3 J (Qz (Qq (Qj (Qj ?_))))))))))));refine Qx (Qv J J J (Qw ineq J J J J (Qv J J J (QY J J J fIv0 J (QZ J J J J J lInt J (QY J J J fIv1 J (QZ J J J J J lInt J (Ops.min2 J J J J (Qw ilss J J J J (Qk 2 J (Qe 41 J (fun g1=> ?_) (fun g1=> ?_))))))))))))
 · have e:=hno (.inl g1);subst e;refine Qk 7 J (Qz (Qq (Xk J (Qj ?_))));refine Qx (Qy J J J (Qz (Qq (Q0 (QW ?_)))));refine QK [_] rfl (Qu J QQ) J J
 refine QY J J J fIv0 J (QZ J J J J J lInt J (QY J J J fIv1 J (QZ J J J J J lInt J (Ops.max2 J J J J (Qw igtr J J J J (Z1 J J J J (Qz (Qq ?_))))))));refine Q1 J (fun g2=> ?_) (fun g2=> ?_)
 · have e:=hno (.inr (.inl g2));subst e;refine Qj (Qx ?_);refine Qy J J J (Qz (Qq (Q0 (QW ?_))));refine QK [_] rfl (Qu J QQ) J J
 refine QU (Qq (Qj (Qx ?_)));refine Qv J J J (QJ goVariables hV J J J J (Qv J J J (QV J J J J (QV J J J J (Qk 2 J (Qz (Qq (Qj ?_))))))));refine Qx (Qv J J J (Qa (n:=2) J J J J J YK J ?_));by_cases hw:w∈vs;rotate_left
 · rw [decide_eq_false hw] at hS;have e:=hno (.inr (.inr hw));subst e;refine QJ goBSearch hS J J J J (Qv J J J (QV J J J J (QV J J J J (Qk 2 J (Qz (Qq (Qj (Qj ?_))))))));refine Qx (Qv J J J (Qr J J J (Qz (Qq (Xk J (Qj ?_))))));refine Qx (Qy J J J (Qz (Qq (Q0 (QW ?_)))));refine QK [_] rfl (Qu J QQ) J J
 rw [decide_eq_true hw] at hS;have hk:=(hpk hw).1;have hy:=hyes (fun h=>by rcases h with h|h|h;exact g1 h;exact g2 h;exact h hw);clear hyes hno hpk;have hU1:=unit_ok vs.length k hk (by omega) 1;have hU2:=unit_ok vs.length k hk (by omega) (-1);have hs1:=unL_small hk hvl (f:=1) (.inl J);have hs2:=unL_small hk hvl (f:= -1) (.inr J);have hC1:=Ceiling_any (c:=unL vs.length k 1) hv hup hs1.1 hs1.2;have hC2:=Ceiling_any (c:=unL vs.length k (-1)) hv hlo hs2.1 hs2.2;clear hs1 hs2;generalize cvA vs.length rs (unL vs.length k 1) up=A1 at hy hC1;generalize cvA vs.length rs (unL vs.length k (-1)) lo=A2 at hy hC2;generalize cvV vs.length rs (unL vs.length k 1) up=V1 at hy hC1;generalize cvV vs.length rs (unL vs.length k (-1)) lo=V2 at hy hC2;refine QJ goBSearch hS J J J J (Qv J J J (QV J J J J (QV J J J J (Qk 2 J (Qz (Qq (Qj (Qj ?_))))))));refine Qx (Qv J J J (Qr J J J (Qz (Qq (Qt J (QU (Qq (Qj ?_))))))));refine Qx (Qv J J J (Q9 J J sWrs.und (List.length_map ..) J (Qk 2 J (Q9 J J sWrs.und (List.length_map ..) J (Qv J J J (QJ gounit hU1 J J J J (Qv J J J (QJ goCeiling hC1 J J J J (Qv J J J (QV J J J J (QV J J J J (Qk 2 J (Qz (Qq (Qj ?_)))))))))))))))
 refine Qx (Qv J J J (Q9 J J sWrs.und (List.length_map ..) J (Qk 2 J (Q9 J J sWrs.und (List.length_map ..) J (Qv J J J (QJ gounit hU2 J J J J (Qv J J J (QJ goCeiling hC2 J J J J ?_))))))));clear hC1 hC2 hU1 hU2 hS hV hR
 cases A1 with
 |false=>
  have e:R=false:=hy;subst e;refine Qv J J J (QV J J J J (QV J J J J (Qk 2 J (Qz (Qq (Qj ?_))))));refine Qx (Qk 18 J (Qz (Qq (Q0 ?_))));refine QK [_] rfl (Qu J QQ) J J
 |true=>
  cases A2 with
  |false=>
   have e:R=false:=hy;subst e;refine Qv J J J (QV J J J J (QV J J J J (Qk 2 J (Qz (Qq (Qj ?_))))));refine Qx (Qk 18 J (Qz (Qq (Q0 ?_))));refine QK [_] rfl (Qu J QQ) J J
  |true=>
   have e:R=(decide (V1<=ph)&&decide (V2<= -pl)):=hy;refine Qv J J J (QV J J J J (QV J J J J (Qk 2 J (Qz (Qq (Qj ?_))))));refine Qx (Qk 6 J (QY J J J fIv1 J (QZ J J J J J lInt J (Qw ileq J J J J (Qk 2 J (Qe 96 J (fun g3=> ?_) (fun g3=> ?_)))))));rotate_left
   · rw [decide_eq_false g3,Bool.false_and] at e;subst e;refine Qk 7 J (Qz (Qq (Q0 ?_)));refine QK [_] rfl (Qu J QQ) J J
   rw [decide_eq_true g3,Bool.true_and] at e;subst e;refine Qv J J J (QY J J J fIv0 J (QZ J J J J J lInt J (Ops.ineg J J (by omega) (by omega) J ?_)));refine Qw ileq J J J J (Qk 2 J (Qz (Qq (Q0 ?_))));refine QK [_] rfl (Qu J QQ) J J
end Go.Proofs.YtojkdfilabmafaaGreat
namespace Go.Proofs.YtojkdfilabmafaaGreat
open Go.Own Go.Limbs Go.Proofs.Tryz
attribute [local irreducible] St Ops Go.Own.Fin Ok
theorem rOrder_ok(x y:Int):Ok prog 242 [intC x,intC y] (intC (cmpI x y)):=by
 refine Ok.enter func242 J _ ntmps242 J ?_
 intro S w;refine Qj (Qx ?_);refine Qy J J J (Qz (Qq (Qj (Qj ?_))));refine Qx (Qk 2 J (Qw ilss J J J J (Qz (Qq ?_))));refine Q1 J (fun h=> ?_) (fun h=> ?_)
 · refine Qj (Qx ?_);refine Qy J J J (Qz (Qq (Q0 (QW ?_))));refine QK [_] rfl (Qu J QQ) (by rw [cmpI_eq,if_pos h];rfl) J
 · refine QU (Qq (Qj (Qj (Qx ?_))));refine Qk 2 J (Qw igtr J J J J (Qz (Qq ?_)));refine Q1 J (fun h2=> ?_) (fun h2=> ?_)
   · refine Qj (Qx ?_);refine Qy J J J (Qz (Qq (Q0 (QW ?_))));refine QK [_] rfl (Qu J QQ) (by rw [cmpI_eq,if_neg h,if_pos h2];rfl) J
   · refine QU (Qq (Qj (Qx ?_)));refine Qy J J J (Qz (Qq (Q0 ?_)));refine QK [_] rfl (Qu J QQ) (by rw [cmpI_eq,if_neg h,if_neg h2];rfl) J
theorem gorOrder:InGo prog 242:=InGo.of func242 (by kernel_rfl) (by kernel_rfl)
theorem rTrim_ok(xs:List Int)(hl:xs.length<4611686018427387904):Ok prog 185 [intsC xs] (intsC (trimL xs)):=by
 refine Ok.enter func185 J _ ntmps185 J ?_
 intro S w;refine Qj (Qx ?_);refine Qy J J J (Qz (Qq (Qj (Q2 ?_))))
 refine Qn (α:=List Int) (fun ys=>trimL ys=trimL xs/\ ys.length<=xs.length) (fun ys=>[(0, .ct (intsC ys))]) (fun _=>[]) (fun ys=>ys.length) xs ⟨rfl,Nat.le_refl _⟩ (Entails.sub ⟨rfl,trivial⟩) ?_
 intro ys ⟨hy,hle⟩;refine Qj (Qj (Qx ?_));refine Qv J J J (Q9 J J sNat.und (List.length_map ..) J (Qw igtr J J J J (Qv J J J (Qe 6 J (fun h=> ?_) (fun h=> ?_)))))
 · have e1:((ys.length:Int) - 1).toNat=ys.length - 1:=by omega
   refine Qk 2 J (Q9 J J sNat.und (List.length_map ..) J (Qw (isub (by omega) (by omega)) J J J J ?_))
   refine Ql J J J sNat (by omega) (XK (by omega) (by omega)) J ?_
   refine Xj J J J lInt J (Qw ieql J J J J (Zx J J J J (Qz (Qq ?_))));refine Q1 J (fun h2=> ?_) (fun h2=> ?_)
   · rw [e1] at h2;refine QU (Qq (Q2 (Qx ?_)));refine Qk 2 J (Q9 J J sNat.und (List.length_map ..) J (Qw (isub (by omega) (by omega)) J J J J ?_))
     refine Ops.cutHi J J J sNat (by omega) (by simp) J ?_
     rw [<- List.map_take];refine Qy J J J (Qz (Qh (Q5 ?_)));refine Q6 (ys.take ((ys.length:Int) - 1).toNat) (by simp;omega) ⟨?_,by simp;omega⟩ (Entails.sub ⟨rfl,trivial⟩);rw [e1,<- hy];exact trim_last (by omega) h2
   · rw [e1] at h2;refine Qi (Qq (Qj (Qx ?_)));refine Qk 2 J (Qz (Qq (Q0 ?_)));refine QK [_] rfl (Qu J QQ) (by rw [<- hy,trim_done (fun _=>h2)];rfl) J
 · refine Qk 8 J (Qz (Qq (Qt J (Qi (Qq (Qj ?_))))));refine Qx (Qk 2 J (Qz (Qq (Q0 ?_))));refine QK [_] rfl (Qu J QQ) (by rw [<- hy,trim_done (fun h3=>absurd h3 (by omega))];rfl) J
theorem gorTrim:InGo prog 185:=InGo.of func185 (by kernel_rfl) (by kernel_rfl)
theorem rCompare_ok(a b:Nat)(ha:(limbs a).length<4611686018427387904)(hb:(limbs b).length<4611686018427387904):Ok prog 186 [natC a,natC b] (intC (cmpI a b)):=by
 refine Ok.enter func186 J _ ntmps186 J ?_
 intro S w;refine Qj (Qx ?_);refine Qy J J J (Qz (Qq (Qj (Qj ?_))));refine Qx (Qv J J J (Q9 J J sNat.und (List.length_map ..) J (Qv J J J (Q9 J J sNat.und (List.length_map ..) J (Qw ineq J J J J (Qz (Qq ?_)))))));refine Q1 J (fun h=> ?_) (fun h=> ?_)
 · have e:cmpI ((limbs a).length:Int) ((limbs b).length:Int)=cmpI (a:Int) (b:Int):=by
    rcases Nat.lt_trichotomy (limbs a).length (limbs b).length with h1|h1|h1
    · have:=lt_of_len h1;rw [cmpI_eq,cmpI_eq,if_pos (by omega),if_pos (by omega)]
    · omega
    · have:=lt_of_len h1;rw [cmpI_eq,cmpI_eq,if_neg (by omega),if_pos (by omega),if_neg (by omega),if_pos (by omega)]
   refine Qj (Qx ?_);refine Qv J J J (Q9 J J sNat.und (List.length_map ..) J (Qv J J J (Q9 J J sNat.und (List.length_map ..) J (QJ gorOrder (rOrder_ok _ _) J J J J (Qy J J J (Qz (Qq (Q0 (QW ?_)))))))));refine QK [_] rfl (Qu J QQ) (by rw [<- e];rfl) J
 · have hl:(limbs a).length=(limbs b).length:=by omega
   clear h;refine QU (Qq (Qj (Qj (Qx ?_))));refine Qv J J J (Q9 J J sNat.und (List.length_map ..) J (Qw (isub (by omega) (by omega)) J J J J ?_));refine Qy J J J (Qz (Qq (Q2 ?_)))
   refine Qn (α:=Nat) (fun k=>k<=(limbs a).length/\ pre (limbs a) k - pre (limbs b) k=(a:Int) - b)
    (fun k=>[(0, .ct (natC a)),(1, .ct (natC b)),(5, .ct (intC ((k:Int) - 1)))]) (fun _=>[]) (fun k=>k) (limbs a).length ⟨Nat.le_refl _,?_⟩ (by exact QX J ⟨rfl,rfl,rfl,trivial⟩) ?_
   · have e1:=Y5 a;have e2:=Y5 b;rw [<- hl] at e2;rw [e1,e2]
   intro k ⟨hk,hv⟩;dsimp only;refine Qj (Qj (Qx ?_));refine Qv J J J (Qw igeq J J J J (Qz (Qq ?_)));refine Q1 J (fun h=> ?_) (fun h=> ?_)
   · obtain ⟨q,rfl⟩:∃q,k=q+1:=⟨k - 1,by omega⟩
     have e1:(((q+1:Nat):Int) - 1)=(q:Int):=by omega
     have e2:(q:Int).toNat=q:=Int.toNat_natCast q;rw [e1];refine QU (Qq (Qj (Q2 (Qj ?_))));refine Xy mixed 9 (.p 0 (.p 1 (.p 2 (.p 4 (.p 5 (.p 6 (.f 3 (.f 7 (.p 8 .done))))))))) (by kernel_rfl) (fun K hK=> ?_);refine Qk 2 J (Ql J J J sNat (by omega) (XK (by omega) (by omega)) J ?_);refine Qk 2 J (Ql J J J sNat (by omega) (XK (by omega) (by omega)) J ?_);refine Xj J J J lInt J (Xj J J J lInt J (Qw ineq J J J J (Qz (hK _ _ (Qq ?_)))));clear hK K;refine Q1 J (fun h2=> ?_) (fun h2=> ?_)
     · rw [e2] at h2
       have e:cmpI ((limbs a).getD q 0) ((limbs b).getD q 0)=cmpI (a:Int) (b:Int):=by
        rcases Int.lt_or_gt_of_ne h2 with h3|h3
        · have:=pre_decides (XX a) (XX b) h3;rw [cmpI_eq,cmpI_eq,if_pos h3,if_pos (by omega)]
        · have:=pre_decides (XX b) (XX a) h3;rw [cmpI_eq,cmpI_eq,if_neg (by omega),if_pos h3,if_neg (by omega),if_pos (by omega)]
       refine Qj (Xy mixed 10 (.p 0 (.p 1 (.p 2 (.p 4 (.p 5 (.p 6 (.f 3 (.f 7 (.m 8 (.p 9 .done)))))))))) (by kernel_rfl) (fun K hK=> ?_));refine Qk 2 J (Ql J J J sNat (by omega) (XK (by omega) (by omega)) J ?_);refine Qk 2 J (Ql J J J sNat (by omega) (XK (by omega) (by omega)) J ?_);refine Xj J J J lInt J (Xj J J J lInt J (QJ gorOrder (rOrder_ok _ _) J J J J ?_));rw [e2];refine Qy J J J (Qz (hK _ _ (Qq (Q0 (Q8 (QW (QW (Q8 (QW ?_)))))))));clear hK K;refine QK [_] rfl (Qu J QQ) (by rw [<- e];rfl) J
     · rw [e2] at h2;refine QU (Qq (Qx ?_));refine Qv J J J (Qw (isub (by omega) (by omega)) J J J J ?_);refine Qy J J J (Qz (Q5 ?_));refine Q6 q (by omega) ⟨by omega,?_⟩ (by exact QX J ⟨rfl,rfl,rfl,trivial⟩);rw [X0,X0] at hv;have:(limbs a).getD q 0=(limbs b).getD q 0:=Classical.not_not.1 h2;rw [this] at hv;omega
   · have hk0:k=0:=by omega
     subst hk0;rw [Zj,Zj] at hv;refine Qi (Qq (Qj (Qx ?_)));refine Qy J J J (Qz (Qq (Q0 ?_)));refine QK [_] rfl (Qu J QQ) (by rw [cmpI_eq,if_neg (by omega),if_neg (by omega)];rfl) J
theorem gorCompare:InGo prog 186:=InGo.of func186 (by kernel_rfl) (by kernel_rfl)
theorem Ys(xs:List Int)(i:Nat):Ok prog 189 [intsC xs,intC i] (intC (xs.getD i 0)):=by
 refine Ok.enter func189 J _ ntmps189 J ?_
 intro S w;refine Qj (Qx ?_);refine Qy J J J (Qz (Qq (Qj (Qj ?_))));refine Qx (Qk 2 J (Q9 J J sNat.und (List.length_map ..) J (Qw ilss J J J J (Qz (Qq ?_)))));refine Q1 J (fun h=> ?_) (fun h=> ?_)
 · have e2:(i:Int).toNat=i:=Int.toNat_natCast i;refine Qj (Qx ?_);refine Qk 2 J (Ql J J J sNat (by omega) (XK (by omega) (by omega)) J ?_);refine Xj J J J lInt J (Qy J J J (Qz (Qq (Q0 (QW ?_)))));rw [e2];skip;refine QK [_] rfl (Qu J QQ) J J
 · refine QU (Qq (Qj (Qx ?_)));refine Qy J J J (Qz (Qq (Q0 ?_)));refine QK [_] rfl (Qu J QQ) (by rw [List.getD_eq_getElem?_getD,List.getElem?_eq_none (by omega)];rfl) J
theorem gorlimb:InGo prog 189:=InGo.of func189 (by kernel_rfl) (by kernel_rfl)
theorem limbs_top{n:Nat}(h:0<(limbs n).length):(limbs n).getD ((limbs n).length - 1) 0≠0:=fun h0=>by
 have h1:=trim_last h h0
 rw [trim_of_limbs] at h1
 have h2:=trim_len ((limbs n).take ((limbs n).length - 1))
 rw [h1] at h2
 simp at h2;omega
theorem getD_past{xs:List Int}{i:Nat}(h:xs.length<=i):xs.getD i 0=0:=by
 rw [List.getD_eq_getElem?_getD,List.getElem?_eq_none (by omega)];rfl
theorem rPlus_ok(a b:Nat)(ha:(limbs a).length<=1000000)(hb:(limbs b).length<=1000000):Ok prog 121 [natC a,natC b] (natC (a+b)):=by
 refine Ok.enter func121 J _ ntmps121 J ?_
 intro S w;refine Qj (Qx ?_);refine Qy J J J (Qz (Qq (Qj ?_)));refine Qx (Qy J J J (Qz (Qq (Qj ?_))));refine Qx (Qy J J J (Qz (Qq (Qj (Qj ?_)))));refine Qx (Qy J J J (Qz (Qq (Q2 ?_))))
 refine ZY 5 0 3 1 J J J ?_
 skip
 refine Qn (α:=Nat × List Int × Int) (fun s=>s.2.1.length=s.1/\ OKL s.2.1/\ 0<=s.2.2/\ s.2.2<=1/\ (s.1<=max (limbs a).length (limbs b).length \/s.2.2=0)/\ s.1<=max (limbs a).length (limbs b).length+1/\ val s.2.1+s.2.2*BB ^ s.1=pre (limbs a) s.1+pre (limbs b) s.1/\
   (max (limbs a).length (limbs b).length<=s.1 ->s.2.2=0 ->trimL s.2.1=s.2.1))
  (fun s=>[(0, .ct (natC a)),(1, .ct (natC b)),(5, .own 0),(6, .ct (intC s.2.2)),(7, .ct (intC s.1))]) (fun s=>[(0, .row 3 1 (ints s.2.1))])
  (fun s=>2*(max (limbs a).length (limbs b).length - s.1)+s.2.2.toNat) (0,[],0) ⟨rfl,OKL.nil,by decide,by decide, .inr J,Nat.zero_le _,by simp [val,Zj],fun _ _=>rfl⟩ (by exact QX J ⟨rfl,rfl,rfl,rfl,rfl,trivial⟩) ?_
 rintro ⟨i,zs,c⟩ ⟨hz,hok,hc0,hc1,hor,hi,hv,ht⟩
 dsimp only at hz hok hc0 hc1 hor hi hv ht ⊢;have b1:=(XX a).get i;have b2:=(XX b).get i;have t1:=limbs_top (n:=a);have t2:=limbs_top (n:=b);have p1:=getD_past (xs:=limbs a) (i:=i);have p2:=getD_past (xs:=limbs b) (i:=i);simp only [BB] at b1 b2
 have step:((i:Int)<(limbs a).length \/(i:Int)<(limbs b).length \/0<c) ->
   (2*(max (limbs a).length (limbs b).length - (i+1))+((((limbs a).getD i 0+(limbs b).getD i 0+c)/1073741824).toNat)<2*(max (limbs a).length (limbs b).length - i)+c.toNat)/\
   ((zs++ [((limbs a).getD i 0+(limbs b).getD i 0+c)%1073741824]).length=i+1/\ OKL (zs++ [((limbs a).getD i 0+(limbs b).getD i 0+c)%1073741824])/\ 0<=((limbs a).getD i 0+(limbs b).getD i 0+c)/1073741824/\ ((limbs a).getD i 0+(limbs b).getD i 0+c)/1073741824<=1/\ (i+1<=max (limbs a).length (limbs b).length \/((limbs a).getD i 0+(limbs b).getD i 0+c)/1073741824=0)/\ i+1<=max (limbs a).length (limbs b).length+1/\ val (zs++ [((limbs a).getD i 0+(limbs b).getD i 0+c)%1073741824])+((limbs a).getD i 0+(limbs b).getD i 0+c)/1073741824*BB ^ (i+1)=pre (limbs a) (i+1)+pre (limbs b) (i+1)/\
   (max (limbs a).length (limbs b).length<=i+1 ->((limbs a).getD i 0+(limbs b).getD i 0+c)/1073741824=0 ->trimL (zs++ [((limbs a).getD i 0+(limbs b).getD i 0+c)%1073741824])=zs++ [((limbs a).getD i 0+(limbs b).getD i 0+c)%1073741824])):=by
  intro hgo;refine ⟨by omega,by simp [hz],hok.append (OKL.cons (by simp only [BB];omega) OKL.nil),by omega,by omega,by omega,by omega,?_,?_⟩
  · rw [Yk,hz,X0,X0];have e:=Int.mul_ediv_add_emod ((limbs a).getD i 0+(limbs b).getD i 0+c) 1073741824;clear t1 t2 p1 p2 ht hor hgo;simp only [val,BB] at*;generalize ((limbs a).getD i 0+(limbs b).getD i 0+c)/1073741824=q at*;generalize ((limbs a).getD i 0+(limbs b).getD i 0+c)%1073741824=m at*
    grind
  · intro hm hcz
    refine trim_id ?_
    have hx:(limbs a).getD i 0+(limbs b).getD i 0+c≠0:=by
     rcases hgo with hg|hg|hg
     · rcases Nat.lt_or_ge (i+1) (limbs a).length with h5|h5
       · omega
       · have e5:(limbs a).length - 1=i:=by omega
         rw [e5] at t1;have:=t1 (by omega);omega
     · rcases Nat.lt_or_ge (i+1) (limbs b).length with h5|h5
       · omega
       · have e5:(limbs b).length - 1=i:=by omega
         rw [e5] at t2;have:=t2 (by omega);omega
     · omega
    omega
 have fin:¬((i:Int)<(limbs a).length \/(i:Int)<(limbs b).length \/0<c) ->natC (a+b)=intsC zs:=by
  intro hgo
  have hc:c=0:=by omega
  have h1:=ht (by omega) hc;rw [hc,Int.zero_mul,Zw (by omega),Zw (by omega),X9,X9] at hv;rw [show intsC zs=intsC (trimL zs) by rw [h1],Zq hok,show (val zs).toNat=a+b by omega]
 have e2:(i:Int).toNat=i:=Int.toNat_natCast i;clear ht hor t1 t2 p1 p2;refine Qj (Qj (Qx ?_));refine Qk 2 J (Q9 J J sNat.und (List.length_map ..) J (Qw ilss J J J J (Qv J J J (Qe 13 J (fun g1=> ?_) (fun g1=> ?_)))))
 · have st:=step (.inl g1);clear step fin;refine Qk 9 J (Qz (Qq (Xk J (QU (Qq (Qj (Q2 (Qj ?_))))))));refine Qx (Qk 2 J (QJ gorlimb (Ys (limbs a) i) J J J J (Qk 2 J (QJ gorlimb (Ys (limbs b) i) J J J J (Qw (iadd (by omega) (by omega)) J J J J ?_)))));refine Qv J J J (Qw (iadd (by omega) (by omega)) J J J J ?_);refine Qy J J J (Qz (Qq (Qj ?_)));refine Qx (Qk 2 J (Qw (irem (by omega) (by omega)) J J J J ?_));refine X8 J J sNat J J J (Qo zs.length (ints (zs++ [((limbs a).getD i 0+(limbs b).getD i 0+c)%1073741824])) J J J J sNat (by simp [ints]) J (by omega) (by omega) (by simp [ints]) J ?_);refine Qy J J J (Qz (Qq ?_));refine Qx (Qv J J J (Qw (iquo (by omega) (by omega) (by omega)) J J J J ?_));refine Qy J J J (Qz (Qq ?_));refine Qx (Qv J J J (Qw (iadd (by omega) (by omega)) J J J J ?_));refine Qy J J J (Qz (Q5 ?_))
   refine Q6 (i+1,zs++ [((limbs a).getD i 0+(limbs b).getD i 0+c)%1073741824],((limbs a).getD i 0+(limbs b).getD i 0+c)/1073741824) st.1 st.2 (by exact QX J ⟨rfl,rfl,rfl,rfl,by simp only [Int.natCast_add];rfl,trivial⟩)
 · refine Qk 2 J (Q9 J J sNat.und (List.length_map ..) J (Qw ilss J J J J (Qk 2 J (Qe 19 J (fun g2=> ?_) (fun g2=> ?_)))))
   · have st:=step (.inr (.inl g2));clear step fin;refine Qk 3 J (Qz (Qq (Xk J (QU (Qq (Qj (Q2 (Qj ?_))))))));refine Qx (Qk 2 J (QJ gorlimb (Ys (limbs a) i) J J J J (Qk 2 J (QJ gorlimb (Ys (limbs b) i) J J J J (Qw (iadd (by omega) (by omega)) J J J J ?_)))));refine Qv J J J (Qw (iadd (by omega) (by omega)) J J J J ?_);refine Qy J J J (Qz (Qq (Qj ?_)));refine Qx (Qk 2 J (Qw (irem (by omega) (by omega)) J J J J ?_));refine X8 J J sNat J J J (Qo zs.length (ints (zs++ [((limbs a).getD i 0+(limbs b).getD i 0+c)%1073741824])) J J J J sNat (by simp [ints]) J (by omega) (by omega) (by simp [ints]) J ?_);refine Qy J J J (Qz (Qq ?_));refine Qx (Qv J J J (Qw (iquo (by omega) (by omega) (by omega)) J J J J ?_));refine Qy J J J (Qz (Qq ?_));refine Qx (Qv J J J (Qw (iadd (by omega) (by omega)) J J J J ?_));refine Qy J J J (Qz (Q5 ?_));refine Q6 (i+1,zs++ [((limbs a).getD i 0+(limbs b).getD i 0+c)%1073741824],((limbs a).getD i 0+(limbs b).getD i 0+c)/1073741824) st.1 st.2 (by exact QX J ⟨rfl,rfl,rfl,rfl,by simp only [Int.natCast_add];rfl,trivial⟩)
   · refine Qv J J J (Qw igtr J J J J (Z1 J J J J (Qz (Qq ?_))));refine Q1 J (fun g3=> ?_) (fun g3=> ?_)
     · have st:=step (.inr (.inr g3));clear step fin;refine QU (Qq (Qj (Q2 (Qj (Qx ?_)))));refine Qk 2 J (QJ gorlimb (Ys (limbs a) i) J J J J (Qk 2 J (QJ gorlimb (Ys (limbs b) i) J J J J (Qw (iadd (by omega) (by omega)) J J J J ?_))));refine Qv J J J (Qw (iadd (by omega) (by omega)) J J J J ?_);refine Qy J J J (Qz (Qq (Qj ?_)));refine Qx (Qk 2 J (Qw (irem (by omega) (by omega)) J J J J ?_));refine X8 J J sNat J J J (Qo zs.length (ints (zs++ [((limbs a).getD i 0+(limbs b).getD i 0+c)%1073741824])) J J J J sNat (by simp [ints]) J (by omega) (by omega) (by simp [ints]) J ?_);refine Qy J J J (Qz (Qq ?_));refine Qx (Qv J J J (Qw (iquo (by omega) (by omega) (by omega)) J J J J ?_));refine Qy J J J (Qz (Qq ?_));refine Qx (Qv J J J (Qw (iadd (by omega) (by omega)) J J J J ?_));refine Qy J J J (Qz (Q5 ?_));refine Q6 (i+1,zs++ [((limbs a).getD i 0+(limbs b).getD i 0+c)%1073741824],((limbs a).getD i 0+(limbs b).getD i 0+c)/1073741824) st.1 st.2 (by exact QX J ⟨rfl,rfl,rfl,rfl,by simp only [Int.natCast_add];rfl,trivial⟩)
     · have fe:=fin (by omega);refine ZQ 0 _ J (Xf _ _) noBor_sub (Qi (Qq (Qj (Qx ?_))));refine Qk 2 J (Qz (Qq (Q0 ?_)));refine QK [_] rfl (Qu J QQ) (by rw [fe];rfl) J
theorem gorPlus:InGo prog 121:=InGo.of func121 (by kernel_rfl) (by kernel_rfl)
theorem val_sub_done{a b:Nat}{zs:List Int}{c:Int}(hok:OKL zs)(hzl:zs.length=(limbs a).length)(hb:b<=a)(hc0:0<=c)(hc1:c<=1)
  (hv:val zs - c*BB ^ (limbs a).length=pre (limbs a) (limbs a).length - pre (limbs b) (limbs a).length):trimL zs=limbs (a - b):=by
 have hlb:=XV hb;rw [Zq hok];rw [Zw (Nat.le_refl _),Zw hlb,X9,X9] at hv;have hp:0<BB ^ (limbs a).length:=Int.pow_pos (by decide);have h1:=YV hok (limbs a).length;rw [Zw (by omega)] at h1
 have hc:c=0:=by
  rcases Int.lt_or_le 0 c with hc|hc
  · have:c=1:=by omega
    subst this;rw [Int.one_mul] at hv;omega
  · omega
 subst hc;rw [Int.zero_mul] at hv
 congr 1;omega
theorem less_step{v c P A B x y d c' K:Int}(h:v - c*P=A - B)(e:x - y - c=d - c' *K):v+P*d - c' *(P*K)=(A+x*P) - (B+y*P):=by
 have h2:P*(x - y - c)=P*(d - c' *K):=by rw [e]
 grind
theorem rLess_ok(a b:Nat)(hb:b<=a)(hx:(limbs a).length<=1000000):Ok prog 188 [natC a,natC b] (natC (a - b)):=by
 refine Ok.enter func188 J _ ntmps188 J ?_
 intro S w;refine Qj (Qx ?_);refine Qy J J J (Qz (Qq (Qj ?_)));refine Qx (Qy J J J (Qz (Qq (Qj ?_))));refine Qx (Qy J J J (Qz (Qq (Qj (Qj ?_)))));refine Qx (Qy J J J (Qz (Qq (Q2 ?_))))
 refine ZY 5 0 3 1 J J J ?_
 skip
 refine Qn (α:=Nat × List Int × Int) (fun s=>s.1<=(limbs a).length/\ s.2.1.length=s.1/\ OKL s.2.1/\ 0<=s.2.2/\ s.2.2<=1/\ val s.2.1 - s.2.2*BB ^ s.1=pre (limbs a) s.1 - pre (limbs b) s.1)
  (fun s=>[(0, .ct (natC a)),(1, .ct (natC b)),(5, .own 0),(6, .ct (intC s.2.2)),(7, .ct (intC s.1))])
  (fun s=>[(0, .row 3 1 (ints s.2.1))])
  (fun s=>(limbs a).length - s.1) (0,[],0) ⟨Nat.zero_le _,rfl,OKL.nil,by decide,by decide,by simp [val,Zj]⟩ (by exact QX J ⟨rfl,rfl,rfl,rfl,rfl,trivial⟩) ?_
 rintro ⟨i,zs,c⟩ ⟨hi,hz,hok,hc0,hc1,hv⟩
 dsimp only at hi hz hok hc0 hc1 hv ⊢;refine Qj (Qj (Qx ?_));refine Qk 2 J (Q9 J J sNat.und (List.length_map ..) J (Qw ilss J J J J (Qz (Qq ?_))));refine Q1 J (fun h=> ?_) (fun h=> ?_)
 · have b1:=(XX a).get i;have b2:=(XX b).get i;simp only [BB] at b1 b2;have e2:(i:Int).toNat=i:=Int.toNat_natCast i;refine QU (Qq (Qj (Q2 (Qj ?_))));refine Xy mixed 11 (.p 0 (.p 1 (.p 2 (.p 4 (.p 5 (.p 8 (.f 3 (.m 6 (.p 7 (.p 9 (.p 10 .done))))))))))) (by kernel_rfl) (fun K hK=> ?_);refine Qk 2 J (Ql J J J sNat (by omega) (XK (by omega) (by omega)) J ?_);refine Qk 3 J (Xj J J J lInt J ?_);rw [e2];skip;refine QJ gorlimb (Ys (limbs b) i) J J J J (Qw (isub (by omega) (by omega)) J J J J ?_)
   refine Qw (isub (by omega) (by omega)) J J J J ?_
   refine Qy J J J (Qz (hK _ _ (Qq (Qj ?_))));clear hK K;refine Qx (Qy J J J (Qz (Qq (Qj (Qj ?_)))));refine Qx (Qv J J J (Qw ilss J J J J (Qz (Qq ?_))));refine Q1 J (fun h2=> ?_) (fun h2=> ?_)
   · refine Qj (Qx ?_);refine Qv J J J (Qw (iadd (by omega) (by omega)) J J J J ?_);refine Qy J J J (Qz (Qq ?_));refine Qx (Qy J J J (Qz (Qq ?_)));refine Qx (Qk 2 J (X8 J J sNat J J J (Qo zs.length (ints (zs++ [(limbs a).getD i 0 - (limbs b).getD i 0 - c+1073741824])) J J J J sNat (by simp [ints]) J (by omega) (by omega) (by simp [ints]) J ?_)));refine Qy J J J (Qz (Qq ?_));refine Qx (Qv J J J (Qw (iadd (by omega) (by omega)) J J J J ?_));refine Qy J J J (Qz (Q5 ?_));refine Q6 (i+1,zs++ [(limbs a).getD i 0 - (limbs b).getD i 0 - c+1073741824],1) (by dsimp only;omega) ⟨by dsimp only;omega,by simp [hz],?_,by show (0:Int)<=1;decide,by show (1:Int)<=1;decide,?_⟩ (by exact QX J ⟨rfl,rfl,rfl,rfl,by simp only [Int.natCast_add];rfl,trivial⟩)
     all_goals dsimp only
     · exact hok.append (OKL.cons (by simp only [BB];omega) OKL.nil)
     · rw [Yk,hz,X0,X0,Int.pow_succ];simp only [val,Int.mul_zero,Int.add_zero];exact less_step hv (by simp only [BB];omega)
   · refine QU (Qq (Qx ?_));refine Qk 2 J (X8 J J sNat J J J (Qo zs.length (ints (zs++ [(limbs a).getD i 0 - (limbs b).getD i 0 - c])) J J J J sNat (by simp [ints]) J (by omega) (by omega) (by simp [ints]) J ?_));refine Qy J J J (Qz (Qq ?_));refine Qx (Qv J J J (Qw (iadd (by omega) (by omega)) J J J J ?_));refine Qy J J J (Qz (Q5 ?_));refine Q6 (i+1,zs++ [(limbs a).getD i 0 - (limbs b).getD i 0 - c],0) (by dsimp only;omega) ⟨by dsimp only;omega,by simp [hz],?_,by show (0:Int)<=0;decide,by show (0:Int)<=1;decide,?_⟩ (by exact QX J ⟨rfl,rfl,rfl,rfl,by simp only [Int.natCast_add];rfl,trivial⟩)
     all_goals dsimp only
     · exact hok.append (OKL.cons (by simp only [BB];omega) OKL.nil)
     · rw [Yk,hz,X0,X0,Int.pow_succ];simp only [val,Int.mul_zero,Int.add_zero];exact less_step hv (by simp only [BB];omega)
 · have hi' :i=(limbs a).length:=by omega
   subst hi';have e4:=val_sub_done hok hz hb hc0 hc1 hv;refine ZQ 0 _ J (Xf _ _) noBor_sub (Qi (Qq (Qj (Qx ?_))));refine Qv J J J (QJ gorTrim (rTrim_ok zs (by omega)) J J J J ?_);rw [e4];refine Qy J J J (Qz (Qq (Q0 ?_)));refine QK [_] rfl (Qu J QQ) J J
theorem gorLess:InGo prog 188:=InGo.of func188 (by kernel_rfl) (by kernel_rfl)
theorem rhalf_ok(a:Nat)(hl:(limbs a).length<=1000000):Ok prog 217 [natC a] (natC (a/2)):=by
 refine Ok.enter func217 J _ ntmps217 J ?_
 intro S w;refine Qj (Qx ?_);refine Qy J J J (Qz (Qq (Qj ?_)));refine Qx (Qv J J J (Q9 J J sNat.und (List.length_map ..) J (Zb 0 (limbs a).length J J J J sNat (by omega) (by omega) J J J ?_)));rw [ints_made];refine Qy J J J (Qz (Qq (Qj ?_)));refine Qx (Qy J J J (Qz (Qq (Qj (Qj ?_)))));refine Qx (Qv J J J (Q9 J J sNat.und (List.length_map ..) J (Qw (isub (by omega) (by omega)) J J J J ?_)));refine Qy J J J (Qz (Qq (Q2 ?_)))
 refine Qn (α:=Nat × List Int × Int) (fun s=>s.1<=(limbs a).length/\ s.2.1.length=(limbs a).length/\ OKL s.2.1/\ (∀j,j<s.1 ->s.2.1.getD j 0=0)/\ 0<=s.2.2/\ s.2.2<2/\ val s.2.1*2+s.2.2*BB ^ s.1=val (limbs a) - pre (limbs a) s.1)
  (fun s=>[(0, .ct (natC a)),(3, .own 0),(4, .ct (intC s.2.2)),(5, .ct (intC ((s.1:Int) - 1)))])
  (fun s=>[(0, .row 3 1 (ints s.2.1))]) (fun s=>s.1) ((limbs a).length,List.replicate (limbs a).length 0,0) ⟨Nat.le_refl _,by simp,OKL.zeros _,?_,Int.le_refl _,by show (0:Int)<2;decide,?_⟩ (by exact QX J ⟨rfl,rfl,rfl,rfl,trivial⟩) ?_
 · intro j _;simp [List.getD_eq_getElem?_getD,List.getElem?_replicate];split <;>rfl
 · dsimp only;rw [Ya,Zw (Nat.le_refl _)];simp
 rintro ⟨q,zs,rest⟩ ⟨hq,hzl,hok,hz,hr0,hr1,hv⟩
 dsimp only at hq hzl hok hz hr0 hr1 hv ⊢;refine Qj (Qj (Qx ?_));refine Qv J J J (Qw igeq J J J J (Qz (Qq ?_)));refine Q1 J (fun h=> ?_) (fun h=> ?_)
 · obtain ⟨i,rfl⟩:∃i,q=i+1:=⟨q - 1,by omega⟩
   have e1:(((i+1:Nat):Int) - 1)=(i:Int):=by omega
   have e2:(i:Int).toNat=i:=Int.toNat_natCast i
   have e3:(i:Int).toNat*1=i:=by omega
   have bx:=(XX a).get i;simp only [BB] at bx;rw [e1];refine QU (Qq (Qj (Q2 (Qj (Qx ?_)))));refine Qk 2 J (Ql J J J sNat (by omega) (XK (by omega) (by omega)) J ?_);refine Xj J J J lInt J (Qv J J J (Qw (imul (by omega) (by omega)) J J J J ?_));rw [e2]
   refine Qw (iadd (by omega) (by omega)) J J J J ?_
   refine Qy J J J (Qz (Qq (Qj ?_)));refine Qx (Qk 3 J (Qw (iquo (by omega) (by omega) (by omega)) J J J J ?_));rw [show (limbs a).getD i 0+rest*1073741824=rest*1073741824+(limbs a).getD i 0 from Int.add_comm _ _];skip
   refine XY (limbs a).length J J J (by simp [ints];omega) J sNat (by omega) (by omega) J ?_
   rw [e3]
   refine Xw J J J J J zInt (by simp [Ent.cs,ints];omega) ?_
   simp only [Ent.setc,Zv];refine Qz (Qq ?_);refine Qx (Qv J J J (Qw (irem (by omega) (by omega)) J J J J ?_));refine Qy J J J (Qz (Qq ?_));refine Qx (Qv J J J (Qw (isub (by omega) (by omega)) J J J J ?_));refine Qy J J J (Qz (Q5 ?_));refine Q6 (i,zs.set i ((rest*1073741824+(limbs a).getD i 0)/2),(rest*1073741824+(limbs a).getD i 0)%2) (by dsimp only;omega) ⟨by dsimp only;omega,by simp [hzl],?_,?_,by dsimp only;omega,by dsimp only;omega,?_⟩ (by exact QX J ⟨rfl,rfl,rfl,rfl,trivial⟩)
   all_goals dsimp only
   · exact hok.set _ (by simp only [BB];omega)
   · intro j hj;rw [getD_set (by omega),if_neg (by omega)];exact hz j (by omega)
   · rw [Yr (by omega),hz i (by omega),Int.sub_zero];exact top_step hv
 · have hq0:q=0:=by omega
   subst hq0
   have e4:val zs*2+rest=a:=by rw [Zj,X9] at hv;simpa using hv
   have e5:(val zs).toNat=a/2:=by omega
   refine ZQ 0 _ J (Xf _ _) noBor_sub (Qi (Qq (Qj (Qx ?_))));refine Qv J J J (QJ gorTrim (rTrim_ok zs (by omega)) J J J J ?_);rw [Zq hok,e5];refine Qy J J J (Qz (Qq (Q0 ?_)));refine QK [_] rfl (Qu J QQ) J J
theorem gorhalf:InGo prog 217:=InGo.of func217 (by kernel_rfl) (by kernel_rfl)
theorem rTimes_ok(a b:Nat)(hx:(limbs a).length+(limbs b).length<=1000000):Ok prog 187 [natC a,natC b] (natC (a*b)):=by
 refine Ok.enter func187 Y _ ntmps187 Y ?_
 intro S w;refine Qj (Qx ?_);refine Qy Y Y Y (Qz (Qq (Qj ?_)));refine Qx (Qv Y Y Y (Q9 Y Y sNat.und (List.length_map ..) Y (Qv Y Y Y (Q9 Y Y sNat.und (List.length_map ..) Y (Qw (iadd (by omega) (by omega)) Y Y Y Y ?_)))))
 refine Zb 0 ((limbs a).length+(limbs b).length) Y Y Y (by omega) sNat (by omega) (by omega) Y Y Y ?_
 rw [ints_made];refine Qy Y Y Y (Qz (Qq (Qj (Qj ?_))));refine Qx (Qy Y Y Y (Qz (Qq (Q2 ?_))))
 refine Qn (α:=Nat × List Int) (fun s=>s.1<=(limbs a).length/\ s.2.length=(limbs a).length+(limbs b).length/\ OKL s.2/\ (∀j,s.1+(limbs b).length<=j ->s.2.getD j 0=0)/\ val s.2=pre (limbs a) s.1*b)
  (fun s=>[(0, .ct (natC a)),(1, .ct (natC b)),(5, .own 0),(6, .ct (intC s.1))])
  (fun s=>[(0, .row 3 1 (ints s.2))])
  (fun s=>(limbs a).length - s.1) (0,List.replicate ((limbs a).length+(limbs b).length) 0) ⟨Nat.zero_le _,by simp,OKL.zeros _,?_,?_⟩ (by exact QX Y ⟨rfl,rfl,rfl,rfl,trivial⟩) ?_
 · intro j _;simp [List.getD_eq_getElem?_getD,List.getElem?_replicate];split <;>rfl
 · rw [Zj,Ya];simp
 rintro ⟨i,out⟩ ⟨hi,hlen,hok,hz,hv⟩
 dsimp only at hi hlen hok hz hv ⊢;refine Qj (Qj (Qx ?_));refine Qk 2 Y (Q9 Y Y sNat.und (List.length_map ..) Y (Qw ilss Y Y Y Y (Qz (Qq ?_))));refine Q1 Y (fun h=> ?_) (fun h=> ?_)
 · have bx:=(XX a).get i;have eix:(i:Int).toNat=i:=Int.toNat_natCast i;refine QU (Qq (Qj (Q2 (Qj (Qx ?_)))));refine Qy Y Y Y (Qz (Qq (Qj ?_)));refine Qx (Qy Y Y Y (Qz (Qq (Q2 ?_))))
   refine Qn (α:=Nat × List Int × Int) (fun s=>(s.1<=(limbs b).length \/s.2.2=0)/\ s.1<=(limbs b).length+1/\ s.2.1.length=(limbs a).length+(limbs b).length/\ OKL s.2.1/\ (∀j,i+(limbs b).length+1<=j ->s.2.1.getD j 0=0)/\ (s.1<=(limbs b).length ->s.2.1.getD (i+(limbs b).length) 0=0)/\ 0<=s.2.2/\ s.2.2<BB/\
     val s.2.1+s.2.2*BB ^ (i+s.1)=val out+(limbs a).getD i 0*pre (limbs b) s.1*BB ^ i)
    (fun s=>[(0, .ct (natC a)),(1, .ct (natC b)),(5, .own 0),(6, .ct (intC i)),(7, .ct (intC s.2.2)),(8, .ct (intC s.1))])
    (fun s=>[(0, .row 3 1 (ints s.2.1))])
    (fun s=>(limbs b).length+2 - s.1) (0,out,0) ⟨.inr Y,Nat.zero_le _,hlen,hok,fun j hj=>hz j (by omega),fun _=>hz _ (Nat.le_refl _),Int.le_refl _,by show (0:Int)<BB;decide,by rw [Zj];simp⟩ (by exact QX Y ⟨rfl,rfl,rfl,rfl,rfl,rfl,trivial⟩) ?_
   rintro ⟨q,zs,c⟩ ⟨hqc,hq,hzl,hzok,hzz,hzt,hc0,hc1,hzv⟩
   dsimp only at hqc hq hzl hzok hzz hzt hc0 hc1 hzv ⊢
   have by' :=(XX b).get q
   have bz:=hzok.get (i+q)
   have bm:=mul_bd bx by'
   have hpast:=getD_past (xs:=limbs b) (i:=q);simp only [BB] at bz hc1 bx;have eq1:(q:Int).toNat=q:=Int.toNat_natCast q
   have eiq:((i:Int)+q).toNat*1=i+q:=by omega
   have step:q<=(limbs b).length ->
     ((limbs b).length+2 - (q+1)<(limbs b).length+2 - q)/\ ((q+1<=(limbs b).length \/(zs.getD (i+q) 0+(limbs a).getD i 0*(limbs b).getD q 0+c)/1073741824=0)/\ q+1<=(limbs b).length+1/\ (zs.set (i+q) ((zs.getD (i+q) 0+(limbs a).getD i 0*(limbs b).getD q 0+c)%1073741824)).length=(limbs a).length+(limbs b).length/\ OKL (zs.set (i+q) ((zs.getD (i+q) 0+(limbs a).getD i 0*(limbs b).getD q 0+c)%1073741824))/\ (∀j,i+(limbs b).length+1<=j ->(zs.set (i+q) ((zs.getD (i+q) 0+(limbs a).getD i 0*(limbs b).getD q 0+c)%1073741824)).getD j 0=0)/\ (q+1<=(limbs b).length ->(zs.set (i+q) ((zs.getD (i+q) 0+(limbs a).getD i 0*(limbs b).getD q 0+c)%1073741824)).getD (i+(limbs b).length) 0=0)/\ 0<=(zs.getD (i+q) 0+(limbs a).getD i 0*(limbs b).getD q 0+c)/1073741824/\ (zs.getD (i+q) 0+(limbs a).getD i 0*(limbs b).getD q 0+c)/1073741824<BB/\
     val (zs.set (i+q) ((zs.getD (i+q) 0+(limbs a).getD i 0*(limbs b).getD q 0+c)%1073741824))+(zs.getD (i+q) 0+(limbs a).getD i 0*(limbs b).getD q 0+c)/1073741824*BB ^ (i+(q+1))=val out+(limbs a).getD i 0*pre (limbs b) (q+1)*BB ^ i):=by
    intro hqb;refine ⟨by omega,?_,by omega,by simp [hzl],hzok.set _ (by simp only [BB];omega),?_,?_,by omega,by simp only [BB];omega,?_⟩
    · rcases Nat.lt_or_ge q (limbs b).length with h5|h5
      · exact .inl h5
      · have h6:q=(limbs b).length:=by omega
        right;have:=hzt hqb;rw [<- h6] at this;rw [this,hpast h5,Int.mul_zero];omega
    · intro j hj;rw [getD_set (by omega),if_neg (by omega)];exact hzz j hj
    · intro h5;rw [getD_set (by omega),if_neg (by omega)];exact hzt hqb
    · rw [Yr (by omega),X0,show i+(q+1)=(i+q)+1 by omega,Int.pow_succ,Int.pow_add];rw [Int.pow_add] at hzv;have e:=Int.mul_ediv_add_emod (zs.getD (i+q) 0+(limbs a).getD i 0*(limbs b).getD q 0+c) 1073741824
      clear hpast hzt hzz hqc bm by' bz hz
      simp only [BB] at*;generalize (zs.getD (i+q) 0+(limbs a).getD i 0*(limbs b).getD q 0+c)/1073741824=Q at*;generalize (zs.getD (i+q) 0+(limbs a).getD i 0*(limbs b).getD q 0+c)%1073741824=M at*;generalize (1073741824:Int) ^ i=I at*;generalize (1073741824:Int) ^ q=J at*;generalize zs.getD (i+q) 0=z at*;generalize (limbs a).getD i 0=x at*;generalize (limbs b).getD q 0=y at*;generalize pre (limbs b) q=pb at*;generalize val zs=vz at*;generalize val out=vo at*
      grind
   have fin:¬((q:Int)<(limbs b).length) ->¬(0<c) ->(i+1<=(limbs a).length/\ zs.length=(limbs a).length+(limbs b).length/\ OKL zs/\ (∀j,i+1+(limbs b).length<=j ->zs.getD j 0=0)/\ val zs=pre (limbs a) (i+1)*b):=by
    intro g1 g2;refine ⟨by omega,hzl,hzok,fun j hj=>hzz j (by omega),?_⟩
    have hc:c=0:=by omega
    rw [hc,Int.zero_mul,Int.add_zero,Zw (xs:=limbs b) (by omega),X9,hv] at hzv;rw [hzv,X0];grind
   refine Qj (Qj (Qx ?_));refine Qk 2 Y (Q9 Y Y sNat.und (List.length_map ..) Y (Qw ilss Y Y Y Y (Qv Y Y Y (Qe 26 Y (fun g1=> ?_) (fun g1=> ?_)))))
   · have st:=step (by omega);clear step fin;refine Qk 3 Y (Qz (Qq (Xk Y (QU (Qq (Qj (Q2 (Qj ?_))))))));refine Xy mixed 18 (.p 0 (.p 1 (.p 2 (.p 3 (.p 4 (.p 6 (.p 7 (.p 8 (.p 10 (.p 11 (.p 15 (.f 5 (.f 9 (.m 12 (.p 13 (.p 14 (.p 16 (.p 17 .done)))))))))))))))))) (by kernel_rfl) (fun K hK=> ?_);refine Qk 3 Y (Qw (iadd (by omega) (by omega)) Y Y Y Y ?_)
     refine XY ((limbs a).length+(limbs b).length) Y Y Y (by simp [ints];omega) Y sNat (by omega) (by omega) Y ?_
     rw [eiq];refine Qk 2 Y (Ql Y Y Y sNat (by omega) (XK (by omega) (by omega)) Y ?_);refine Qk 3 Y ?_;rw [eix]
     refine QZ Y Y Y Y (Xo (by omega)) lInt Y ?_
     refine Xj Y Y Y lInt Y (QJ gorlimb (Ys (limbs b) q) Y Y Y Y (Qw (imul (by omega) (by omega)) Y Y Y Y ?_))
     refine Qw (iadd (by omega) (by omega)) Y Y Y Y ?_
     refine Qw (iadd (by omega) (by omega)) Y Y Y Y ?_
     refine Qy Y Y Y (Qz (hK _ _ (Qq (Qj ?_))));clear hK K;refine Qx (Qk 3 Y (Qw (iadd (by omega) (by omega)) Y Y Y Y ?_));refine Qv Y Y Y (Qw (irem (by omega) (by omega)) Y Y Y Y ?_)
     refine XY ((limbs a).length+(limbs b).length) Y Y Y (by simp [ints];omega) Y sNat (by omega) (by omega) Y ?_
     rw [eiq]
     refine Xw Y Y Y Y Y zInt (by simp [Ent.cs,ints];omega) ?_
     simp only [Ent.setc,Zv];refine Qz (Qq ?_);refine Qx (Qv Y Y Y (Qw (iquo (by omega) (by omega) (by omega)) Y Y Y Y ?_));refine Qy Y Y Y (Qz (Qq ?_));refine Qx (Qv Y Y Y (Qw (iadd (by omega) (by omega)) Y Y Y Y ?_));refine Qy Y Y Y (Qz (Q5 ?_));refine Q6 (q+1,zs.set (i+q) ((zs.getD (i+q) 0+(limbs a).getD i 0*(limbs b).getD q 0+c)%1073741824),(zs.getD (i+q) 0+(limbs a).getD i 0*(limbs b).getD q 0+c)/1073741824) st.1 st.2 (by exact QX Y ⟨rfl,rfl,rfl,rfl,rfl,by simp only [Int.natCast_add];rfl,trivial⟩)
   · refine Qv Y Y Y (Qw igtr Y Y Y Y (Z1 Y Y Y Y (Qz (Qq ?_))));refine Q1 Y (fun g2=> ?_) (fun g2=> ?_)
     · have st:=step (by omega);clear step fin;refine QU (Qq (Qj (Q2 (Qj ?_))));refine Xy mixed 18 (.p 0 (.p 1 (.p 2 (.p 3 (.p 4 (.p 6 (.p 7 (.p 8 (.p 10 (.p 11 (.p 15 (.f 5 (.f 9 (.m 12 (.p 13 (.p 14 (.p 16 (.p 17 .done)))))))))))))))))) (by kernel_rfl) (fun K hK=> ?_);refine Qk 3 Y (Qw (iadd (by omega) (by omega)) Y Y Y Y ?_)
       refine XY ((limbs a).length+(limbs b).length) Y Y Y (by simp [ints];omega) Y sNat (by omega) (by omega) Y ?_
       rw [eiq];refine Qk 2 Y (Ql Y Y Y sNat (by omega) (XK (by omega) (by omega)) Y ?_);refine Qk 3 Y ?_;rw [eix]
       refine QZ Y Y Y Y (Xo (by omega)) lInt Y ?_
       refine Xj Y Y Y lInt Y (QJ gorlimb (Ys (limbs b) q) Y Y Y Y (Qw (imul (by omega) (by omega)) Y Y Y Y ?_))
       refine Qw (iadd (by omega) (by omega)) Y Y Y Y ?_
       refine Qw (iadd (by omega) (by omega)) Y Y Y Y ?_
       refine Qy Y Y Y (Qz (hK _ _ (Qq (Qj ?_))));clear hK K;refine Qx (Qk 3 Y (Qw (iadd (by omega) (by omega)) Y Y Y Y ?_));refine Qv Y Y Y (Qw (irem (by omega) (by omega)) Y Y Y Y ?_)
       refine XY ((limbs a).length+(limbs b).length) Y Y Y (by simp [ints];omega) Y sNat (by omega) (by omega) Y ?_
       rw [eiq]
       refine Xw Y Y Y Y Y zInt (by simp [Ent.cs,ints];omega) ?_
       simp only [Ent.setc,Zv];refine Qz (Qq ?_);refine Qx (Qv Y Y Y (Qw (iquo (by omega) (by omega) (by omega)) Y Y Y Y ?_));refine Qy Y Y Y (Qz (Qq ?_));refine Qx (Qv Y Y Y (Qw (iadd (by omega) (by omega)) Y Y Y Y ?_));refine Qy Y Y Y (Qz (Q5 ?_));refine Q6 (q+1,zs.set (i+q) ((zs.getD (i+q) 0+(limbs a).getD i 0*(limbs b).getD q 0+c)%1073741824),(zs.getD (i+q) 0+(limbs a).getD i 0*(limbs b).getD q 0+c)/1073741824) st.1 st.2 (by exact QX Y ⟨rfl,rfl,rfl,rfl,rfl,by simp only [Int.natCast_add];rfl,trivial⟩)
     · have fe:=fin g1 g2;clear step fin;refine Qi (Qq (Qx ?_));refine Qv Y Y Y (Qw (iadd (by omega) (by omega)) Y Y Y Y ?_);refine Qy Y Y Y (Qz (Q5 ?_));refine Q6 (i+1,zs) (by dsimp only;omega) fe (by exact QX Y ⟨rfl,rfl,rfl,by simp only [Int.natCast_add];rfl,trivial⟩)
 · have hi' :i=(limbs a).length:=by omega
   have e4:trimL out=limbs (a*b):=by
    rw [Zq hok,hv,hi',Zw (Nat.le_refl _),X9]
    congr 1
   refine ZQ 0 _ Y (Xf _ _) noBor_sub (Qi (Qq (Qj (Qx ?_))));refine Qv Y Y Y (QJ gorTrim (rTrim_ok out (by omega)) Y Y Y Y ?_);rw [e4];refine Qy Y Y Y (Qz (Qq (Q0 ?_)));refine QK [_] rfl (Qu Y QQ) Y Y
theorem gorTimes:InGo prog 187:=InGo.of func187 (by kernel_rfl) (by kernel_rfl)
theorem uU64:prog.underlying 230=some (.int .u64):=underlying230
theorem uI64:prog.underlying 3=some (.int .i64):=underlying3
abbrev wordC (x : Int) : CT := .ex (.int .u64 x)
theorem rWord_ok(n:Nat)(hn:n<18446744073709551616):Ok prog 153 [wordC n] (natC n):=by
 refine Ok.enter func153 J _ ntmps153 J ?_
 intro S w;refine Qj (Qx ?_);refine Qy J J J (Qz (Qq (Qj ?_)));refine Qx (Qy J J J (Qz (Qq (Qj (Q2 ?_)))))
 refine ZY 3 0 3 1 J J J ?_
 skip
 refine Qn (α:=Nat × List Int) (fun s=>s.1<=n/\ limbs n=s.2++limbs s.1)
  (fun s=>[(0, .ct (wordC s.1)),(3, .own 0)]) (fun s=>[(0, .row 3 1 (ints s.2))]) (fun s=>s.1) (n,[]) ⟨Nat.le_refl _,rfl⟩ (by exact QX J ⟨rfl,rfl,trivial⟩) ?_
 rintro ⟨m,zs⟩ ⟨hm,hv⟩
 dsimp only at hm hv ⊢
 have hl:zs.length<=64:=by
  have h1:=congrArg List.length hv;have h2:=Qs (n:=n) (k:=3) (by omega);simp at h1;omega
 refine Qj (Qj (Qx ?_));refine Qv J J J (Qw igtr J J J J (Qz (Qq ?_)));refine Q1 J (fun h=> ?_) (fun h=> ?_)
 · refine QU (Qq (Qj (Q2 (Qx ?_))));refine Qk 2 J (Qw (urem (by omega) (by omega)) J J J J ?_)
   refine ZU J J uU64 uI64 (Z5 (by omega) (by omega)) J ?_
   refine X8 J J sNat J J J (Qo zs.length (ints (zs++ [(m:Int)%1073741824])) J J J J sNat (by simp [ints]) J (by omega) (by omega) (by simp [ints]) J ?_);refine Qy J J J (Qz (Qq ?_));refine Qx (Qv J J J (Qw (uquo (by omega) (by omega) (by omega)) J J J J ?_));refine Qy J J J (Qz (Q5 ?_))
   refine Q6 (m/1073741824,zs++ [(m:Int)%1073741824]) (by dsimp only;omega) ⟨by dsimp only;omega,?_⟩ ?_
   all_goals dsimp only
   · rw [hv,limbs_pos (n:=m) (by omega)];simp
   · exact QX J ⟨by rw [Int.natCast_ediv];rfl,rfl,trivial⟩
 · have:m=0:=by omega
   subst this;rw [limbs_zero,List.append_nil] at hv;subst hv;refine ZQ 0 _ J (Xf _ _) noBor_sub (Qi (Qq (Qj (Qx ?_))));refine Qk 2 J (Qz (Qq (Q0 ?_)));refine QK [_] rfl (Qu J QQ) J J
theorem gorWord:InGo prog 153:=InGo.of func153 (by kernel_rfl) (by kernel_rfl)
theorem cmpI_le{a b:Int}:cmpI a b<=0↔a<=b:=by unfold cmpI;split <;>(try split) <;>omega
theorem rTimes_one(b m:Nat)(h0:0<m)(h1:m<1073741824)(hl:(limbs b).length<=100000):Ok prog 187 [natC b, .fr (sliceT 1 [[intC m]])] (natC (b*m)):=by
 have h:=rTimes_ok b m (by rw [limbs_one h0 h1];simp;omega)
 have e:natC m= .fr (sliceT 1 [[intC m]]):=by show intsC (limbs m)=_;rw [limbs_one h0 h1];rfl
 rw [<- e];exact h
theorem split_step{v b r R A p x P d:Int}(K:Int)(hR:R=r*K+x)(hv:v*b+r*(P*K)=A - (p+x*P)):(v+d*P)*b+(R - b*d)*P=A - p:=by
 subst hR;grind
theorem len_lt_mul{R b k:Nat}(h:(limbs b).length<=k)(hR:R<b*1073741824):(limbs R).length<=k+1:=by
 refine Qs ?_
 rw [Nat.pow_succ];exact Nat.lt_trans hR (Nat.mul_lt_mul_of_pos_right (XU h) (by decide))
theorem rSplit_ok(a b:Nat)(hb:0<b)(la:(limbs a).length<=10000)(lb:(limbs b).length<=10000):Ok prog 120 [natC a,natC b] (.fr (tupT [natC (a/b),natC (a%b)])):=by
 refine Ok.enter func120 J _ ntmps120 J ?_
 intro S w;refine Qj (Qx ?_);refine Qk 2 J (Qz (Qq (Qj ?_)));refine Qx (Qv J J J (Q9 J J sNat.und (List.length_map ..) J (Zb 0 (limbs a).length J J J J sNat (by omega) (by omega) J J J ?_)));rw [ints_made];refine Qy J J J (Qz (Qq (Qj ?_)));refine Qx (Qy J J J (Qz (Qq (Qj (Qj ?_)))));refine Qx (Qv J J J (Q9 J J sNat.und (List.length_map ..) J (Qw (isub (by omega) (by omega)) J J J J ?_)));refine Qy J J J (Qz (Qq (Q2 ?_)))
 refine St.asNil 7 1 J ?_
 refine Qn (α:=Nat × List Int × Nat) (fun s=>s.1<=(limbs a).length/\ s.2.1.length=(limbs a).length/\ OKL s.2.1/\ (∀j,j<s.1 ->s.2.1.getD j 0=0)/\ s.2.2<b/\ val s.2.1*b+s.2.2*BB ^ s.1=val (limbs a) - pre (limbs a) s.1)
  (fun s=>[(0, .ct (natC a)),(1, .ct (natC b)),(6, .own 0),(7, .ct (natC s.2.2)),(8, .ct (intC ((s.1:Int) - 1)))])
  (fun s=>[(0, .row 3 1 (ints s.2.1))]) (fun s=>s.1) ((limbs a).length,List.replicate (limbs a).length 0,0) ⟨Nat.le_refl _,by simp,OKL.zeros _,?_,hb,?_⟩ (by exact QX J ⟨rfl,rfl,rfl,by rw [natC_zero];rfl,rfl,trivial⟩) ?_
 · intro j _;simp [List.getD_eq_getElem?_getD,List.getElem?_replicate];split <;>rfl
 · dsimp only;rw [Ya,Zw (Nat.le_refl _)];simp
 rintro ⟨q,zs,rr⟩ ⟨hq,hzl,hok,hz,hrb,hv⟩
 dsimp only at hq hzl hok hz hrb hv ⊢;refine Qj (Qj (Qx ?_));refine Qv J J J (Qw igeq J J J J (Qz (Qq ?_)));refine Q1 J (fun h=> ?_) (fun h=> ?_)
 · obtain ⟨i,rfl⟩:∃i,q=i+1:=⟨q - 1,by omega⟩
   have e1:(((i+1:Nat):Int) - 1)=(i:Int):=by omega
   have e2:(i:Int).toNat=i:=Int.toNat_natCast i
   have e3:(i:Int).toNat*1=i:=by omega
   have bx:=(XX a).get i;simp only [BB] at bx;obtain ⟨R,hR⟩:∃R:Nat,(R:Int)=rr*1073741824+(limbs a).getD i 0:=⟨((rr:Int)*1073741824+(limbs a).getD i 0).toNat,by omega⟩;have lrr:(limbs rr).length<=10000:=Nat.le_trans (XV (Nat.le_of_lt hrb)) lb
   have eT:trimL ((limbs a).getD i 0::limbs rr)=limbs R:=by
    rw [Zq (OKL.cons (by simp only [BB];omega) (XX rr))];simp only [val];rw [X9];congr 1;simp only [BB];omega
   have hRb:R<b*1073741824:=by
    have h1:(rr+1)*1073741824<=b*1073741824:=Nat.mul_le_mul_right _ (by omega);omega
   have lR:(limbs R).length<=10001:=len_lt_mul lb hRb;rw [X0,Int.pow_succ] at hv;rw [e1];refine QU (Qq (Qj (Q2 (Qj (Qx ?_)))));refine Qk 2 J (Ql J J J sNat (by omega) (XK (by omega) (by omega)) J ?_)
   refine Xj J J J lInt J ?_
   rw [e2];refine Ops.lit1E 1 J J sNat J J J J J (Qv J J J (Ops.append 1 (ints ((limbs a).getD i 0::limbs rr)) J J J J sNat J ?_ (by simp;omega) (by simp;omega) ?_ J ?_))
   · rw [flat_one];exact ints_ones _
   · rw [flat_one];rfl
   refine Zk 1 _ J (Xf _ _) noBor_sub (QJ gorTrim (rTrim_ok _ (by simp;omega)) J J J J ?_);rw [eT];refine Qy J J J (Qz (Qq (Qj (Qj ?_))));refine Qx (Qk 2 J (QJ gorCompare (rCompare_ok R b (by omega) (by omega)) J J J J ?_));refine Qw ilss J J J J (Qz (Qq ?_));refine Q1 J (fun h2=> ?_) (fun h2=> ?_)
   · rw [cmpI_neg] at h2;refine Qi (Qq (Qx ?_));refine Qv J J J (Qw (isub (by omega) (by omega)) J J J J ?_);refine Qy J J J (Qz (Q5 ?_));refine Q6 (i,zs,R) (by dsimp only;omega) ⟨by dsimp only;omega,hzl,hok,fun j hj=>hz j (by dsimp only at hj;omega),by dsimp only;omega,?_⟩ (by exact QX J ⟨rfl,rfl,rfl,rfl,rfl,trivial⟩);dsimp only;have:=split_step (d:=0) BB hR hv
     simpa using this
   · rw [cmpI_neg] at h2;refine QU (Qq (Qj (Qx ?_)));refine Qk 2 J (Qz (Qq (Qj (Q2 ?_))))
     refine Qn (α:=Nat × Nat) (fun s=>1<=s.1/\ s.1<=s.2/\ s.2<=1073741823/\ b*s.1<=R/\ R<b*(s.2+1))
      (fun s=>[(0, .ct (natC a)),(1, .ct (natC b)),(6, .own 0),(7, .ct (natC R)),(8, .ct (intC i)),(9, .ct (intC s.1)),(10, .ct (intC s.2))])
      (fun _=>[(0, .row 3 1 (ints zs))]) (fun s=>s.2 - s.1) (1,1073741823) ⟨Nat.le_refl _,by decide,Nat.le_refl _,by omega,hRb⟩ (by exact QX J ⟨rfl,rfl,rfl,rfl,rfl,rfl,rfl,trivial⟩) ?_
     rintro ⟨lo,hi⟩ ⟨k1,k2,k3,k4,k5⟩
     dsimp only at k1 k2 k3 k4 k5 ⊢;refine Qj (Qj (Qx ?_));refine Qk 2 J (Qw ilss J J J J (Qz (Qq ?_)));refine Q1 J (fun h3=> ?_) (fun h3=> ?_)
     · obtain ⟨m,hm⟩:∃m:Nat,m=(lo+hi+1)/2:=⟨_,rfl⟩
       have em:((lo:Int)+hi+1)/2=(m:Int):=by omega
       have lbm:(limbs (b*m)).length<=10001:=Nat.le_trans Zt (by
        have:=Qs (n:=m) (k:=1) (by omega)
        omega)
       refine QU (Qq (Q2 (Qj (Qx ?_))));refine Qk 2 J (Qw (iadd (by omega) (by omega)) J J J J ?_)
       refine Qw (iadd (by omega) (by omega)) J J J J ?_
       refine Qw (iquo (by omega) (by omega) (by omega)) J J J J ?_
       refine Qy J J J (Qz (Qq (Qj ?_)));refine Qx (Qk 2 J ?_);rw [em];skip;refine X8 J J sNat J J J (QJ gorTimes (rTimes_one b m (by omega) (by omega) (by omega)) J J J J ?_);refine Qv J J J (QJ gorCompare (rCompare_ok (b*m) R (by omega) (by omega)) J J J J ?_);refine Qw ileq J J J J (Qz (Qq ?_));refine Q1 J (fun h4=> ?_) (fun h4=> ?_)
       · rw [cmpI_le] at h4;refine Qx (Qk 2 J (Qz (Qh (Q5 ?_))));refine Q6 (m,hi) (by dsimp only;omega) ⟨by dsimp only;omega,by dsimp only;omega,k3,by dsimp only;omega,k5⟩ (by exact QX J ⟨rfl,rfl,rfl,rfl,rfl,rfl,rfl,trivial⟩)
       · rw [cmpI_le] at h4;refine Qx (Qv J J J (Qw (isub (by omega) (by omega)) J J J J ?_));refine Qy J J J (Qz (Qh (Q5 ?_)));refine Q6 (lo,m - 1) (by dsimp only;omega) ⟨k1,by dsimp only;omega,by dsimp only;omega,k4,?_⟩ (by exact QX J ⟨rfl,rfl,rfl,rfl,rfl,rfl,by rw [show ((m - 1:Nat):Int)=(m:Int) - 1 by omega];rfl,trivial⟩);dsimp only;rw [show m - 1+1=m by omega];omega
     · have h6:lo=hi:=by omega
       subst h6
       have lbm:(limbs (b*lo)).length<=10001:=Nat.le_trans Zt (by
        have:=Qs (n:=lo) (k:=1) (by omega)
        omega)
       refine Qi (Qq (Qj (Qx ?_)));refine Qk 3 J (XY (limbs a).length J J J (by simp [ints];omega) J sNat (by omega) (by omega) J ?_);rw [e3]
       refine Xw J J J J J zInt (by simp [Ent.cs,ints];omega) ?_
       simp only [Ent.setc,Zv];refine Qz (Qq ?_);refine Qx (Qk 3 J (X8 J J sNat J J J (QJ gorTimes (rTimes_one b lo (by omega) (by omega) (by omega)) J J J J ?_)))
       refine QJ gorLess (rLess_ok R (b*lo) k4 (by omega)) J J J J ?_
       refine Qy J J J (Qz (Qq ?_));refine Qx (Qv J J J (Qw (isub (by omega) (by omega)) J J J J ?_));refine Qy J J J (Qz (Q5 ?_));refine Q6 (i,zs.set i (lo:Int),R - b*lo) (by dsimp only;omega) ⟨by dsimp only;omega,by simp [hzl],?_,?_,?_,?_⟩ (by exact QX J ⟨rfl,rfl,rfl,rfl,rfl,trivial⟩)
       all_goals dsimp only
       · exact hok.set _ (by simp only [BB];omega)
       · intro j hj;rw [getD_set (by omega),if_neg (by omega)];exact hz j (by omega)
       · rw [Nat.mul_add] at k5;omega
       · rw [Yr (by omega),hz i (by omega),Int.sub_zero,show ((R - b*lo:Nat):Int)=(R:Int) - b*lo by rw [Int.natCast_sub k4,Int.natCast_mul]];exact split_step BB hR hv
 · have hq0:q=0:=by omega
   subst hq0
   have e4:val zs*b+rr=a:=by rw [Zj,X9] at hv;simpa using hv
   have hvz:=Y6 hok;obtain ⟨Q,hQ⟩:∃Q:Nat,val zs=Q:=⟨(val zs).toNat,by omega⟩;rw [hQ] at e4
   have e4' :a=rr+Q*b:=by
    have:((Q*b+rr:Nat):Int)=a:=by rw [Int.natCast_add,Int.natCast_mul];exact e4
    omega
   have e5:a/b=Q/\ a%b=rr:=by
    rw [e4'];constructor
    · rw [Nat.add_mul_div_right _ _ hb,Nat.div_eq_of_lt hrb];omega
    · rw [Nat.add_mul_mod_self_right,Nat.mod_eq_of_lt hrb]
   refine ZQ 0 _ J (Xf _ _) noBor_sub (Qi (Qq (Qj (Qx ?_))));refine Qv J J J (QJ gorTrim (rTrim_ok zs (by omega)) J J J J ?_);rw [Zq hok,hQ,Int.toNat_natCast];refine Qk 3 J (Qz (Qq (Q0 ?_)));refine QK [_,_] rfl (Qu J (Qu J QQ)) (by rw [e5.1,e5.2];rfl) J
theorem gorSplit:InGo prog 120:=InGo.of func120 (by kernel_rfl) (by kernel_rfl)
theorem limbs_get0{x:Nat}(h:x≠0):(limbs x).getD 0 0=((x%1073741824:Nat):Int):=by rw [limbs_pos h];rfl
theorem gcd_half{x y:Nat}(hx:x%2=0)(hy:y%2=1):Nat.gcd (x/2) y=Nat.gcd x y:=by
 have e:x=2*(x/2):=by omega
 have hc:Nat.Coprime 2 y:=by
  unfold Nat.Coprime;rw [Nat.gcd_rec,hy];rfl
 conv=>rhs;rw [e]
 exact (hc.gcd_mul_left_cancel _).symm
theorem gcd_two{x y:Nat}(hx:x%2=0)(hy:y%2=0):2*Nat.gcd (x/2) (y/2)=Nat.gcd x y:=by
 rw [<- Nat.gcd_mul_left,show 2*(x/2)=x by omega,show 2*(y/2)=y by omega]
theorem gcd_less{x y:Nat}(h:y<=x):Nat.gcd (x - y) y=Nat.gcd x y:=by
 conv=>rhs;rw [show x=(x - y)+y by omega]
 rw [Nat.gcd_add_self_left]
theorem len_add{x y k:Nat}(h1:x<1073741824 ^ k)(h2:y<1073741824 ^ k):(limbs (x+y)).length<=k+1:=by
 refine Qs ?_
 rw [Nat.pow_succ];omega
theorem rGcd_ok(a b:Nat)(la:(limbs a).length<=10000)(lb:(limbs b).length<=10000):Ok prog 152 [natC a,natC b] (natC (Nat.gcd a b)):=by
 refine Ok.enter func152 J _ ntmps152 J ?_
 intro S w;refine Qj (Qx ?_);refine Qy J J J (Qz (Qq (Qj (Qj ?_))));refine Qx (Qv J J J (Q9 J J sNat.und (List.length_map ..) J (Qw ieql J J J J (Qv J J J ?_))))
 have early:(limbs a).length=0 \/(limbs b).length=0 ->natC (Nat.gcd a b)=natC (a+b):=by
  rintro (h|h)
  · have:a=0:=Zi (List.eq_nil_of_length_eq_zero h);subst this;simp
  · have:b=0:=Zi (List.eq_nil_of_length_eq_zero h);subst this;simp
 refine Qe 9 J (fun g1=> ?_) (fun g1=> ?_)
 · have ee:=early (.inl (by omega));refine Qk 4 J (Qz (Qq (Xk J (Qj ?_))));refine Qx (Qk 2 J (QJ gorPlus (rPlus_ok a b (by omega) (by omega)) J J J J ?_));refine Qy J J J (Qz (Qq (Q0 (QW ?_))));refine QK [_] rfl (Qu J QQ) (by rw [ee];rfl) J
 · refine Qv J J J (Q9 J J sNat.und (List.length_map ..) J (Qw ieql J J J J (Z1 J J J J (Qz (Qq ?_)))));refine Q1 J (fun g2=> ?_) (fun g2=> ?_)
   · have ee:=early (.inr (by omega));refine Qj (Qx ?_);refine Qk 2 J (QJ gorPlus (rPlus_ok a b (by omega) (by omega)) J J J J ?_);refine Qy J J J (Qz (Qq (Q0 (QW ?_))));refine QK [_] rfl (Qu J QQ) (by rw [ee];rfl) J
   · have ha0:a≠0:=limbs_len_pos.mp (by omega);have hb0:b≠0:=limbs_len_pos.mp (by omega);clear early
     have e11:natC 1= .fr (sliceT 1 [[intC 1]]):=by show intsC (limbs 1)=_;rw [limbs_one (by decide) (by decide)];rfl
     have h00:(0:Int).toNat=0:=rfl;refine QU (Qq (Qj (Qx ?_)))
     refine X8 J J sNat J J J ?_
     rw [<- e11];refine Qy J J J (Qz (Qq (Qj (Q2 ?_))))
     refine Qn (α:=Nat × Nat × Nat) (fun s=>0<s.1/\ 0<s.2.1/\ 0<s.2.2/\ s.1<=a/\ s.2.1<=b/\ s.2.2*s.1<=a/\ s.2.2*Nat.gcd s.1 s.2.1=Nat.gcd a b)
      (fun s=>[(0, .ct (natC s.1)),(1, .ct (natC s.2.1)),(5, .ct (natC s.2.2))]) (fun _=>[]) (fun s=>s.1) (a,b,1) ⟨by dsimp only;omega,by dsimp only;omega,Nat.one_pos,Nat.le_refl _,Nat.le_refl _,by dsimp only;omega,by dsimp only;omega⟩ (by exact QX J ⟨rfl,rfl,rfl,trivial⟩) ?_
     rintro ⟨x,y,u⟩ ⟨hx,hy,hu,hxa,hyb,hua,hg⟩
     dsimp only at hx hy hu hxa hyb hua hg ⊢;have lx:(limbs x).length<=10000:=Nat.le_trans (XV hxa) la;have ly:(limbs y).length<=10000:=Nat.le_trans (XV hyb) lb;have lu:(limbs u).length<=10000:=Nat.le_trans (XV (Nat.le_trans (Nat.le_mul_of_pos_right u hx) hua)) la;have px:=limbs_len_pos.mpr (show x≠0 by omega);have py:=limbs_len_pos.mpr (show y≠0 by omega);have gx:=limbs_get0 (show x≠0 by omega);have gy:=limbs_get0 (show y≠0 by omega);refine Qj (Qj (Qx ?_));refine Qv J J J (Ql J J J sNat (by omega) (XK (by omega) (by omega)) J ?_)
     refine Xj J J J lInt J ?_
     rw [h00,gx]
     refine Qw (irem (by omega) (by omega)) J J J J ?_
     refine Qw ieql J J J J (Qv J J J (Qe 23 J (fun g3=> ?_) (fun g3=> ?_)))
     · refine Qv J J J (Ql J J J sNat (by omega) (XK (by omega) (by omega)) J ?_)
       refine Xj J J J lInt J ?_
       rw [h00,gy]
       refine Qw (irem (by omega) (by omega)) J J J J ?_
       refine Qw ieql J J J J (Zx J J J J (Qz (Qq ?_)));refine Q1 J (fun g4=> ?_) (fun g4=> ?_)
       · refine QU (Qq (Q2 (Qx ?_)));refine Qv J J J (QJ gorhalf (rhalf_ok x (by omega)) J J J J ?_);refine Qv J J J (QJ gorhalf (rhalf_ok y (by omega)) J J J J ?_);refine Qk 2 J (QJ gorPlus (rPlus_ok u u (by omega) (by omega)) J J J J ?_);refine Qk 3 J (Qz (Qh (Q5 ?_)));have q1:=gcd_two (x:=x) (y:=y) (by omega) (by omega);refine Q6 (x/2,y/2,u+u) (by dsimp only;omega) ⟨by dsimp only;omega,by dsimp only;omega,by dsimp only;omega,by dsimp only;omega,by dsimp only;omega,?_,?_⟩ (by exact QX J ⟨rfl,rfl,rfl,trivial⟩)
         · dsimp only;rw [<- Nat.two_mul,Nat.mul_comm 2 u,Nat.mul_assoc,show 2*(x/2)=x by omega];exact hua
         · dsimp only;rw [<- Nat.two_mul,Nat.mul_comm 2 u,Nat.mul_assoc,q1];exact hg
       · have hodd:x%2=1 \/y%2=1:=by omega
         clear g3 g4 gx gy;refine Qi (Qq (Qj (Q2 ?_)))
         refine Qn (α:=Nat × Nat) (fun s=>s.1<=a/\ s.2<=b/\ (s.1%2=1 \/s.2%2=1)/\ u*Nat.gcd s.1 s.2=Nat.gcd a b)
          (fun s=>[(0, .ct (natC s.1)),(1, .ct (natC s.2)),(5, .ct (natC u))]) (fun _=>[]) (fun s=>s.1+s.2) (x,y) ⟨hxa,hyb,hodd,hg⟩ (by exact QX J ⟨rfl,rfl,rfl,trivial⟩) ?_
         clear hodd hg hxa hyb hua px py lx ly hx hy
         rintro ⟨p,q⟩ ⟨hpa,hqb,hodd,hg⟩
         dsimp only at hpa hqb hodd hg ⊢;have lp:(limbs p).length<=10000:=Nat.le_trans (XV hpa) la;have lq:(limbs q).length<=10000:=Nat.le_trans (XV hqb) lb
         have done:p=0 \/q=0 ->natC (Nat.gcd a b)=natC (u*(p+q)):=by
          rintro (h|h)
          · subst h;rw [<- hg];simp
          · subst h;rw [<- hg];simp
         have lpq:(limbs (p+q)).length<=10001:=by
          have h1:=XU lp;have h2:=XU lq;exact len_add h1 h2
         refine Qj (Qj (Qx ?_));refine Qv J J J (Q9 J J sNat.und (List.length_map ..) J (Qw igtr J J J J (Qv J J J (Qe 40 J (fun g5=> ?_) (fun g5=> ?_)))))
         · refine Qv J J J (Q9 J J sNat.und (List.length_map ..) J (Qw igtr J J J J (Zx J J J J (Qz (Qq ?_)))));refine Q1 J (fun g6=> ?_) (fun g6=> ?_)
           · have hp0:p≠0:=limbs_len_pos.mp (by omega);have hq0:q≠0:=limbs_len_pos.mp (by omega);have gp:=limbs_get0 hp0;have gq:=limbs_get0 hq0;clear done;refine QU (Qq (Q2 (Q2 (Qj (Qx ?_)))));refine Qv J J J (Ql J J J sNat (by omega) (XK (by omega) (by omega)) J ?_)
             refine Xj J J J lInt J ?_
             rw [h00,gp]
             refine Qw (irem (by omega) (by omega)) J J J J ?_
             refine Qw ieql J J J J (Qy J J J (Qz (Qq ?_)));refine Q1 J (fun g7=> ?_) (fun g7=> ?_)
             · have q1:=gcd_half (x:=p) (y:=q) (by omega) (by omega);refine Qx (Qv J J J (QJ gorhalf (rhalf_ok p (by omega)) J J J J ?_));refine Qy J J J (Qz (Qh (Qh (Q5 ?_))));refine Q6 (p/2,q) (by dsimp only;omega) ⟨by dsimp only;omega,hqb,by dsimp only;omega,by dsimp only;rw [q1];exact hg⟩ (by exact QX J ⟨rfl,rfl,rfl,trivial⟩)
             · refine Qj (Qx ?_);refine Qv J J J (Ql J J J sNat (by omega) (XK (by omega) (by omega)) J ?_)
               refine Xj J J J lInt J ?_
               rw [h00,gq]
               refine Qw (irem (by omega) (by omega)) J J J J ?_
               refine Qw ieql J J J J (Qy J J J (Qz (Qq ?_)));refine Q1 J (fun g8=> ?_) (fun g8=> ?_)
               · have q1:=gcd_half (x:=q) (y:=p) (by omega) (by omega);refine Qx (Qv J J J (QJ gorhalf (rhalf_ok q (by omega)) J J J J ?_));refine Qy J J J (Qz (Qh (Qh (Q5 ?_))));refine Q6 (p,q/2) (by dsimp only;omega) ⟨hpa,by dsimp only;omega,by dsimp only;omega,by dsimp only;rw [Nat.gcd_comm,q1,Nat.gcd_comm];exact hg⟩ (by exact QX J ⟨rfl,rfl,rfl,trivial⟩)
               · refine Qj (Qx ?_);refine Qk 2 J (QJ gorCompare (rCompare_ok p q (by omega) (by omega)) J J J J ?_);refine Qw igeq J J J J (Qy J J J (Qz (Qq ?_)));refine Q1 J (fun g9=> ?_) (fun g9=> ?_)
                 · have hle:q<=p:=by have:=cmpI_neg (a:=p) (b:=q);omega
                   have q1:=gcd_less hle;refine Qx (Qk 2 J (QJ gorLess (rLess_ok p q hle (by omega)) J J J J ?_));refine Qy J J J (Qz (Qh (Qh (Q5 ?_))));refine Q6 (p - q,q) (by dsimp only;omega) ⟨by dsimp only;omega,hqb,by dsimp only;omega,by dsimp only;rw [q1];exact hg⟩ (by exact QX J ⟨rfl,rfl,rfl,trivial⟩)
                 · have hle:p<=q:=by have:=cmpI_neg (a:=p) (b:=q);omega
                   have q1:=gcd_less hle;refine Qx (Qk 2 J (QJ gorLess (rLess_ok q p hle (by omega)) J J J J ?_));refine Qy J J J (Qz (Qh (Qh (Q5 ?_))));refine Q6 (p,q - p) (by dsimp only;omega) ⟨hpa,by dsimp only;omega,by dsimp only;omega,by dsimp only;rw [Nat.gcd_comm,q1,Nat.gcd_comm];exact hg⟩ (by exact QX J ⟨rfl,rfl,rfl,trivial⟩)
           · have hd:=done (.inr (Zi (List.eq_nil_of_length_eq_zero (by omega))));refine Qi (Qq (Qj (Qx ?_)));refine Qk 3 J (QJ gorPlus (rPlus_ok p q (by omega) (by omega)) J J J J ?_)
             refine QJ gorTimes (rTimes_ok u (p+q) (by omega)) J J J J ?_
             refine Qy J J J (Qz (Qq (Q0 ?_)));refine QK [_] rfl (Qu J QQ) (by rw [hd];rfl) J
         · have hd:=done (.inl (Zi (List.eq_nil_of_length_eq_zero (by omega))));refine Qk 4 J (Qz (Qq (Qt J (Qi (Qq (Qj ?_))))));refine Qx (Qk 3 J (QJ gorPlus (rPlus_ok p q (by omega) (by omega)) J J J J ?_))
           refine QJ gorTimes (rTimes_ok u (p+q) (by omega)) J J J J ?_
           refine Qy J J J (Qz (Qq (Q0 ?_)));refine QK [_] rfl (Qu J QQ) (by rw [hd];rfl) J
     · have hodd:x%2=1 \/y%2=1:=by omega
       clear g3 gx gy;refine Qk 6 J (Qz (Qq (Qt J (Qi (Qq (Qj (Q2 ?_)))))))
       refine Qn (α:=Nat × Nat) (fun s=>s.1<=a/\ s.2<=b/\ (s.1%2=1 \/s.2%2=1)/\ u*Nat.gcd s.1 s.2=Nat.gcd a b)
        (fun s=>[(0, .ct (natC s.1)),(1, .ct (natC s.2)),(5, .ct (natC u))]) (fun _=>[]) (fun s=>s.1+s.2) (x,y) ⟨hxa,hyb,hodd,hg⟩ (by exact QX J ⟨rfl,rfl,rfl,trivial⟩) ?_
       clear hodd hg hxa hyb hua px py lx ly hx hy
       rintro ⟨p,q⟩ ⟨hpa,hqb,hodd,hg⟩
       dsimp only at hpa hqb hodd hg ⊢;have lp:(limbs p).length<=10000:=Nat.le_trans (XV hpa) la;have lq:(limbs q).length<=10000:=Nat.le_trans (XV hqb) lb
       have done:p=0 \/q=0 ->natC (Nat.gcd a b)=natC (u*(p+q)):=by
        rintro (h|h)
        · subst h;rw [<- hg];simp
        · subst h;rw [<- hg];simp
       have lpq:(limbs (p+q)).length<=10001:=by
        have h1:=XU lp;have h2:=XU lq;exact len_add h1 h2
       refine Qj (Qj (Qx ?_));refine Qv J J J (Q9 J J sNat.und (List.length_map ..) J (Qw igtr J J J J (Qv J J J (Qe 40 J (fun g5=> ?_) (fun g5=> ?_)))))
       · refine Qv J J J (Q9 J J sNat.und (List.length_map ..) J (Qw igtr J J J J (Zx J J J J (Qz (Qq ?_)))));refine Q1 J (fun g6=> ?_) (fun g6=> ?_)
         · have hp0:p≠0:=limbs_len_pos.mp (by omega);have hq0:q≠0:=limbs_len_pos.mp (by omega);have gp:=limbs_get0 hp0;have gq:=limbs_get0 hq0;clear done;refine QU (Qq (Q2 (Q2 (Qj (Qx ?_)))));refine Qv J J J (Ql J J J sNat (by omega) (XK (by omega) (by omega)) J ?_)
           refine Xj J J J lInt J ?_
           rw [h00,gp]
           refine Qw (irem (by omega) (by omega)) J J J J ?_
           refine Qw ieql J J J J (Qy J J J (Qz (Qq ?_)));refine Q1 J (fun g7=> ?_) (fun g7=> ?_)
           · have q1:=gcd_half (x:=p) (y:=q) (by omega) (by omega);refine Qx (Qv J J J (QJ gorhalf (rhalf_ok p (by omega)) J J J J ?_));refine Qy J J J (Qz (Qh (Qh (Q5 ?_))));refine Q6 (p/2,q) (by dsimp only;omega) ⟨by dsimp only;omega,hqb,by dsimp only;omega,by dsimp only;rw [q1];exact hg⟩ (by exact QX J ⟨rfl,rfl,rfl,trivial⟩)
           · refine Qj (Qx ?_);refine Qv J J J (Ql J J J sNat (by omega) (XK (by omega) (by omega)) J ?_)
             refine Xj J J J lInt J ?_
             rw [h00,gq]
             refine Qw (irem (by omega) (by omega)) J J J J ?_
             refine Qw ieql J J J J (Qy J J J (Qz (Qq ?_)));refine Q1 J (fun g8=> ?_) (fun g8=> ?_)
             · have q1:=gcd_half (x:=q) (y:=p) (by omega) (by omega);refine Qx (Qv J J J (QJ gorhalf (rhalf_ok q (by omega)) J J J J ?_));refine Qy J J J (Qz (Qh (Qh (Q5 ?_))));refine Q6 (p,q/2) (by dsimp only;omega) ⟨hpa,by dsimp only;omega,by dsimp only;omega,by dsimp only;rw [Nat.gcd_comm,q1,Nat.gcd_comm];exact hg⟩ (by exact QX J ⟨rfl,rfl,rfl,trivial⟩)
             · refine Qj (Qx ?_);refine Qk 2 J (QJ gorCompare (rCompare_ok p q (by omega) (by omega)) J J J J ?_);refine Qw igeq J J J J (Qy J J J (Qz (Qq ?_)));refine Q1 J (fun g9=> ?_) (fun g9=> ?_)
               · have hle:q<=p:=by have:=cmpI_neg (a:=p) (b:=q);omega
                 have q1:=gcd_less hle;refine Qx (Qk 2 J (QJ gorLess (rLess_ok p q hle (by omega)) J J J J ?_));refine Qy J J J (Qz (Qh (Qh (Q5 ?_))));refine Q6 (p - q,q) (by dsimp only;omega) ⟨by dsimp only;omega,hqb,by dsimp only;omega,by dsimp only;rw [q1];exact hg⟩ (by exact QX J ⟨rfl,rfl,rfl,trivial⟩)
               · have hle:p<=q:=by have:=cmpI_neg (a:=p) (b:=q);omega
                 have q1:=gcd_less hle;refine Qx (Qk 2 J (QJ gorLess (rLess_ok q p hle (by omega)) J J J J ?_));refine Qy J J J (Qz (Qh (Qh (Q5 ?_))));refine Q6 (p,q - p) (by dsimp only;omega) ⟨hpa,by dsimp only;omega,by dsimp only;omega,by dsimp only;rw [Nat.gcd_comm,q1,Nat.gcd_comm];exact hg⟩ (by exact QX J ⟨rfl,rfl,rfl,trivial⟩)
         · have hd:=done (.inr (Zi (List.eq_nil_of_length_eq_zero (by omega))));refine Qi (Qq (Qj (Qx ?_)));refine Qk 3 J (QJ gorPlus (rPlus_ok p q (by omega) (by omega)) J J J J ?_)
           refine QJ gorTimes (rTimes_ok u (p+q) (by omega)) J J J J ?_
           refine Qy J J J (Qz (Qq (Q0 ?_)));refine QK [_] rfl (Qu J QQ) (by rw [hd];rfl) J
       · have hd:=done (.inl (Zi (List.eq_nil_of_length_eq_zero (by omega))));refine Qk 4 J (Qz (Qq (Qt J (Qi (Qq (Qj ?_))))));refine Qx (Qk 3 J (QJ gorPlus (rPlus_ok p q (by omega) (by omega)) J J J J ?_))
         refine QJ gorTimes (rTimes_ok u (p+q) (by omega)) J J J J ?_
         refine Qy J J J (Qz (Qq (Q0 ?_)));refine QK [_] rfl (Qu J QQ) (by rw [hd];rfl) J
theorem gorGcd:InGo prog 152:=InGo.of func152 (by kernel_rfl) (by kernel_rfl)
theorem rmagnitude_ok(n:Int)(h1: -9223372036854775808<=n)(h2:n<=9223372036854775807):Ok prog 90 [intC n] (natC n.natAbs):=by
 refine Ok.enter func90 J _ ntmps90 J ?_
 intro S w;refine Qj (Qx ?_);refine Qy J J J (Qz (Qq (Qj (Qj ?_))));refine Qx (Qv J J J (Qw ilss J J J J (Qz (Qq ?_))));refine Q1 J (fun h=> ?_) (fun h=> ?_)
 · refine Qj (Qx ?_);refine Qv J J J (Qw (iadd (by omega) (by omega)) J J J J ?_)
   refine Ops.ineg J J (by omega) (by omega) J ?_
   refine ZU J J uI64 uU64 (wrap_u (by omega) (by omega)) J ?_
   refine Qw (uadd (by omega) (by omega)) J J J J ?_
   rw [show -(n+1)+1=(n.natAbs:Int) by omega]
   refine QJ gorWord (rWord_ok n.natAbs (by omega)) J J J J ?_
   refine Qy J J J (Qz (Qq (Q0 (QW ?_))));refine QK [_] rfl (Qu J QQ) J J
 · refine QU (Qq (Qj (Qx ?_)));refine Qv J J J (ZU J J uI64 uU64 (wrap_u (by omega) (by omega)) J ?_);rw [show n=(n.natAbs:Int) by omega]
   refine QJ gorWord (rWord_ok n.natAbs (by omega)) J J J J ?_
   refine Qy J J J (Qz (Qq (Q0 ?_)));refine QK [_] rfl (Qu J QQ) J J
theorem gormagnitude:InGo prog 90:=InGo.of func90 (by kernel_rfl) (by kernel_rfl)
theorem rreduced_ok(neg:Bool)(a b:Nat)(h0:0<b)(la:(limbs a).length<=10000)(lb:(limbs b).length<=10000):Ok prog 89 [boolC neg,natC a,natC b] (fracC (redF neg a b)):=by
 have hg0:0<Nat.gcd a b:=Nat.gcd_pos_of_pos_right _ h0;have hg1:Nat.gcd a b<=b:=Nat.gcd_le_right _ h0;have lg:(limbs (Nat.gcd a b)).length<=10000:=Nat.le_trans (XV hg1) lb;have h1:=rGcd_ok a b la lb;have h2:=rSplit_ok a _ hg0 la lg;have h3:=rSplit_ok b _ hg0 lb lg
 have e0:a≠0 ->redF neg a b=⟨neg,a/Nat.gcd a b,b/Nat.gcd a b⟩:=fun ha=>by
  unfold redF
  have:a/Nat.gcd a b≠0:=by
   have:=Nat.div_pos (Nat.gcd_le_left b (Nat.pos_of_ne_zero ha)) hg0;omega
  simp [this]
 have e1:a=0 ->redF neg a b=⟨false,0,1⟩:=fun ha=>by
  subst ha;unfold redF;simp [Nat.div_self h0]
 have e11:natC 1= .fr (sliceT 1 [[intC 1]]):=by show intsC (limbs 1)=_;rw [limbs_one (by decide) (by decide)];rfl
 generalize Nat.gcd a b=g at*
 refine Ok.enter func89 J _ ntmps89 J ?_
 intro S w;refine Qj (Qx ?_);refine Qb 0 J J zvFrac J J J (Qz (Qq (Qj (Qj ?_))));refine Qx (Qv J J J (Q9 J J sNat.und (List.length_map ..) J (Qw ieql J J J J (Qz (Qq ?_)))));refine Q1 J (fun h=> ?_) (fun h=> ?_)
 · have ha:a=0:=Zi (List.eq_nil_of_length_eq_zero (by omega));have e2:=e1 ha;refine Qj (Qx ?_)
   refine X8 J J sNat J J J ?_
   rw [<- e11];refine Qm J bFrac J (.one J J J J .nil) J (Q7 3 J J J J J szFrac J J (Qz (Qq (Q0 (QW ?_)))));refine QK [_] rfl (X1 (w_agg (ds:=[boolC false,intsC [],natC 1]) (by exact ⟨Ze,Yv,Ze,trivial⟩)) (Qd (n:=3) J J Xn J QQ)) (by rw [e2,<- natC_zero];rfl) J
 · have ha:a≠0:=fun ha=>h (by rw [ha,limbs_zero];rfl)
   have e2:=e0 ha;refine QU (Qq (Qj (Qx ?_)));refine Qk 2 J (QJ gorGcd h1 J J J J (Qy J J J (Qz (Qq (Qj ?_)))));refine Qx (Qk 2 J (QJ gorSplit h2 J J J J (Qv J J J (QV J J J J (QV J J J J (Qk 2 J (Qz (Qq (Qj ?_)))))))));refine Qx (Qk 2 J (QJ gorSplit h3 J J J J (Qv J J J (QV J J J J (QV J J J J (Qk 2 J (Qz (Qq (Qj ?_)))))))));refine Qx (Qk 3 J (Qm J bFrac J (.one J J J J (.one J J J J (.one J J J J .nil))) J (Q7 3 J J J J J szFrac J J (Qz (Qq (Q0 ?_))))));refine QK [_] rfl (Qd (n:=3) J J Xn J QQ) (by rw [e2];rfl) J
theorem gorreduced:InGo prog 89:=InGo.of func89 (by kernel_rfl) (by kernel_rfl)
theorem rFrom_ok(n d:Int)(h1: -9223372036854775808<=n)(h2:n<=9223372036854775807)(h3: -9223372036854775808<=d)(h4:d<=9223372036854775807)(h0:d≠0):Ok prog 48 [intC n,intC d] (.fr (tupT [ratC (Rat.divInt n d),intC 0])):=by
 have hl:(limbs n.natAbs).length<=3:=Qs (k:=3) (by omega);have hl2:(limbs d.natAbs).length<=3:=Qs (k:=3) (by omega);rw [show ratC (Rat.divInt n d)=fracC (redF (decide (n<0) !=decide (d<0)) n.natAbs d.natAbs) from by rw [from_redF n d h0]]
 refine Ok.enter func48 J _ ntmps48 J ?_
 intro S w;refine Qj (Qx ?_);refine Qb 0 J J zvFrac J J J (Qy J J J (Qz (Qq (Qj (Qj ?_)))));refine Qx (Qv J J J (Qw ieql J J J J (Qz (Qq ?_))));refine Q1 J (fun h=>absurd h h0) (fun h=> ?_);refine QU (Qq (Qj (Qx ?_)));refine Qv J J J (Qw ilss J J J J (Qv J J J (Qw ilss J J J J (Ops.bne J J J uBool J ?_))));rw [dne];refine Qv J J J (QJ gormagnitude (rmagnitude_ok n h1 h2) J J J J (Qv J J J (QJ gormagnitude (rmagnitude_ok d h3 h4) J J J J (QJ gorreduced (rreduced_ok _ n.natAbs d.natAbs (by omega) (by omega) (by omega)) J J J J ?_))));refine Q7 3 J J J J J szFrac J J (Qy J J J (Qz (Qq (Q0 ?_))));refine QK [_,_] rfl (Qd (n:=3) J J Xn J (Qu J QQ)) J J
theorem gorFrom:InGo prog 48:=InGo.of func48 (by kernel_rfl) (by kernel_rfl)
def oppF (f : Fr) : Fr := ⟨!f.neg && decide (f.num ≠ 0), f.num, f.den⟩
end Go.Proofs.YtojkdfilabmafaaGreat
namespace Go.Proofs.YtojkdfilabmafaaGreat
open Go.Own Go.Limbs Go.Det Go.Proofs.Tryz
theorem mk_le(N:Int)(P:Nat)(hP:0<P):(ofQ (mkRat N P)).num<=N.natAbs/\ (ofQ (mkRat N P)).den<=P:=by
 have h:=redF_q (decide (N<0)) N.natAbs P hP;rw [sg_natAbs] at h;rw [<- h];exact ⟨Nat.div_le_self _ _,Nat.div_le_self _ _⟩
end Go.Proofs.YtojkdfilabmafaaGreat
namespace Go.Proofs.YtojkdfilabmafaaGreat
open Go.Own Go.Limbs Go.Proofs.Tryz
attribute [local irreducible] St Ops Go.Own.Fin Ok OkB OkN
def SmQ (q : Rat) : Prop := (ofQ q).neg = false ∧ (ofQ q).num ≤ 1000 ∧ (ofQ q).den ≤ 1000
theorem SmQ.of{a b:Int}(ha:0<=a/\ a<12)(hb:0<=b/\ b<4):SmQ (Rat.divInt a (1+b)):=by
 obtain ⟨d,hd⟩:∃d:Nat,1+b=(d:Int):=⟨(1+b).toNat,by omega⟩;rw [hd];have e:Rat.divInt a (d:Int)=mkRat a d:=rfl;rw [e];obtain ⟨h1,h2⟩:=mk_le a d (by omega);have hr:=mkRat_rel a (d:=d) (by omega);refine ⟨?_,by omega,by omega⟩;show decide ((mkRat a d).num<0)=false;refine decide_eq_false (fun h=> ?_);have h3:(mkRat a d).num*d<0:=Int.mul_neg_of_neg_of_pos h (by omega);have h4:0<=a*((mkRat a d).den:Int):=Int.mul_nonneg ha.1 (by omega);omega
theorem SmQ.vf{q:Rat}(h:SmQ q):VF (ofQ q):=by
 refine VF.q q ?_ ?_
 · exact Nat.le_trans (Qs (k:=1) (show (ofQ q).num<1073741824 ^ 1 by have:=h.2.1;omega)) (by decide)
 · exact Nat.le_trans (Qs (k:=1) (show (ofQ q).den<1073741824 ^ 1 by have:=h.2.2;omega)) (by decide)
theorem ratsC_fr(qs:List Rat):ratsC qs=fracsC (qs.map ofQ):=by show CT.fr (sliceT 3 _)=CT.fr (sliceT 3 _);rw [List.map_map];rfl
theorem MulV.small{rs:List Rw}{qs:List Rat}(hl:qs.length=rs.length)(h:∀q∈qs,SmQ q):MulV rs (qs.map ofQ):=by
 refine ⟨by rw [List.length_map,hl],fun f hf=> ?_,fun f hf=> ?_⟩
 · obtain ⟨q,hq,rfl⟩:=List.mem_map.1 hf;exact (h q hq).vf
 · obtain ⟨q,hq,rfl⟩:=List.mem_map.1 hf;exact (h q hq).1
theorem goFractionsD:InGo prog 18:=InGo.of func18 rfl (by decide)
theorem Fractions_any(bs:List Int)(p:Nat)(n:Int)(h0:0<=n)(h1:n<=64)(hb:Bytes bs):
  OkB prog 18 98 (codes bs p) [intC n] (fun q:List Rat × Nat=>(q.1.length:Int)=n/\ ∀y∈q.1,SmQ y) (fun q=>ratsC q.1) (fun q=>codes bs q.2):=by
 refine OkB.enter func18 J _ ntmps18 J ?_
 intro S w g;refine Qj (Qx ?_);refine Qy J J J (Qz (Qq (Qj ?_)));refine Qx (Qy J J J (Qz (Qq (Qj (Q2 ?_)))))
 refine ZY 5 1 88 3 J J J ?_
 refine Qn (α:=Int × List Rat × Nat) (fun x=>0<=x.1/\ x.2.1.length+x.1=n/\ ∀y∈x.2.1,SmQ y)
  (fun x=>[(0, .own 0),(1, .ct (intC x.1)),(5, .own 1)]) (fun x=>[(1, .row 88 3 (rts x.2.1)),(0, .box 98 (codes bs x.2.2))]) (fun x=>x.1.toNat) (n,[],p) ⟨h0,by simp,by simp⟩ (by exact QX J ⟨rfl,rfl,rfl,trivial⟩) ?_
 rintro ⟨m,ys,p1⟩ ⟨hm0,hml,hys⟩
 dsimp only at hm0 hml hys ⊢;refine Qj (Qj (Qx ?_));refine Qv J J J (Qw igtr J J J J (Qz (Qq ?_)));refine Q1 J (fun hm=> ?_) (fun hm=> ?_)
 · refine QU (Qq (Qj (Q2 (Qj (Qx ?_)))));refine Qv J J J (Zf goNext (Next_ok bs p1 12 (by decide) (by decide) hb) J J J J J (fun q hq=> ?_));obtain ⟨a,p2⟩:=q;dsimp only at hq ⊢;refine Qv J J J (Zf goNext (Next_ok bs p2 4 (by decide) (by decide) hb) J J J J J (fun q hq1=> ?_));obtain ⟨b,p3⟩:=q;dsimp only at hq1 ⊢;have hF:=rFrom_ok a (1+b) (by omega) (by omega) (by omega) (by omega) (by omega);have hae:=SmQ.of hq hq1;generalize Rat.divInt a (1+b)=y at hF hae
   refine Qw (iadd (by omega) (by omega)) J J J J ?_
   refine QJ gorFrom hF J J J J (Qv J J J (QV J J J J (QV J J J J (Qb 2 J J zvFrac J J J (Q7 3 J J J J J szFrac J J (Qy J J J (Qz (Qq ?_))))))));refine Qx (Qv J J J (Qa (n:=3) J J J J J Xn J (Za (n:=3) J J sFracs J J (by decide) J ?_)))
   refine Qo ys.length (rts (ys++ [y])) J J J J sFracs (rts_len ys) J (by omega) (by omega) (rts_snoc ys y) J ?_
   refine Qy J J J (Qz (Qq ?_));refine Qx (Qv J J J (Qw (isub (by omega) (by omega)) J J J J ?_));refine Qy J J J (Qz (Q5 ?_))
   refine Xv 2 ?_
   refine Q6 (m - 1,ys++ [y],p3) (by dsimp only;omega) ⟨by dsimp only;omega,by simp;omega,fun z hz=>by
    rcases List.mem_append.1 hz with hz|hz
    · exact hys z hz
    · rw [List.mem_singleton.1 hz];exact hae⟩ (by exact QX J ⟨rfl,rfl,rfl,trivial⟩)
 · refine St.frz 1 _ J (rts_frozen _ _) (okFix_lent J) (Qi (Qq (Qj (Qx ?_))));refine Qk 2 J (Qz (Qq (Q0 ?_)));refine Fin.retB (ys,p1) [_] rfl (Qu J QQ) J J ⟨by show (ys.length:Int)=n;omega,hys⟩
end Go.Proofs.YtojkdfilabmafaaGreat
namespace Go.Proofs.YtojkdfilabmafaaGreat
open Go.Own Go.Limbs Go.Det Go.Proofs.Tryz
theorem Kt64{m:Nat}(h:m<=64){x:Nat}(hx:x<=Kt m):(limbs x).length<=64:=Qs (Nat.lt_of_le_of_lt (Nat.le_trans hx (Kt_mono h)) (by decide+kernel))
theorem dual_mul{n:Nat}{rs:List Rw}{c:List Int}{O:Oc}(h:Sol n rs c O)(hm:rs.length<=64)(hk:O.kind=1):MulV rs O.dual:=by
 cases h with
 |opt D X Y val hX hv hY hw b1 b2 b3 b4=>
  refine ⟨ptl_len ..,fun f hf=> ?_,fun f hf=> ?_⟩
  · obtain ⟨k,hk,rfl⟩:=ptl_mem hf;obtain ⟨l1,l2⟩:=mk_le (Y k) D.natAbs (by have:=hX.den;omega);exact VF.q _ (Kt64 hm (Nat.le_trans l1 (b3 k hk))) (Kt64 hm (Nat.le_trans l2 b1))
  · obtain ⟨k,hk,rfl⟩:=ptl_mem hf;exact ofQ_neg0 ((shq_num_sign hX.den).1 (hY.nn k hk))
 |unb=>exact absurd (show (2:Int)=1 from hk) (by decide)
 |emp=>exact absurd (show (3:Int)=1 from hk) (by decide)
section
variable {vs : List Wr} {rs : List Rw} {w : Wr} {p : Int × Int} {lo up : List Fr}
theorem ck_sound(hu:Up cmpW vs)(hlo:MulV rs lo)(hup:MulV rs up)(h:ckB vs rs w p lo up=true){T:Wr ->Int}(hX:Feas vs.length rs 1 (fun j=>T (vs.getD j wr0))):p.1<=T w/\ T w<=p.2:=by
 unfold ckB at h;split at h
 · cases h
 rename_i hn
 have hw:w∈vs:=by
  by_cases hw:w∈vs
  · exact hw
  · exact absurd (.inr (.inr hw)) hn
 unfold ckF at h;rw [Bool.and_eq_true,Bool.and_eq_true,Bool.and_eq_true,decide_eq_true_eq,decide_eq_true_eq] at h;obtain ⟨⟨⟨h1,h2⟩,h3⟩,h4⟩:=h;obtain ⟨hk,hg⟩:=(posD_at hu).1 hw;have s1:=cv_sound hup h1 hX;have s2:=cv_sound hlo h2 hX;rw [rsum_un _ hk] at s1 s2
 (try dsimp only at s1 s2)
 rw [hg] at s1 s2;omega
end
section
variable {ts : List Int} {q : Int} {M : Nat → Nat} {out : List Rs}
theorem tr_feas(hl:ts.length=(wiB 2).length)(hts:∀y∈ts,0<=y/\ y<=60)(hq:0<=q/\ q<=100)(hM:∀f,f<2 ->2<=M f/\ M f<=4)(h:TrP ts q M out)(ho:out.length<=13):Feas (vrF out).length (rowsD (vrF out) 60 q (msF out)) 1 (fun j=>tmF ts ((vrF out).getD j wr0)):=by
 obtain ⟨h1,h2,h3⟩:=tr_ms hl hts hq hM h ho;obtain ⟨v1,v2,v3,v4,v5,v6⟩:=tr_vr hl hts hq hM h ho;refine feas_T v2 (tmF ts) (fun v hv=> ?_) (fun m hm=> ?_)
 · obtain ⟨k,hk,_,e⟩:=tmF_at ts (v3 v hv);rw [e];exact hts _ (by rw [List.getD_eq_getElem?_getD,List.getElem?_eq_getElem (by omega)];exact List.getElem_mem _)
 · obtain ⟨f,t,hf,ht1,ht,e,e2,e3⟩:=h3 m hm;exact ⟨v6 m hm,e2,e3⟩
theorem tr_proved(hl:ts.length=(wiB 2).length)(hts:∀y∈ts,0<=y/\ y<=60)(hq:0<=q/\ q<=100)(hM:∀f,f<2 ->2<=M f/\ M f<=4)(h:TrP ts q M out)(ho:out.length<=13):
  ∃(rs:List Rw) (is:List Ik),rs.length<=64/\ Ok prog 17 [rssC out,tiC 60 q] (.fr (tupT [rowsC rs,iksC is,intC 0]))/\
   (∀w,∃(d1 d2:List Fr) (e:Int),Ok prog 19 [rssC out,tiC 60 q,wrC w] (.fr (tupT [fracsC d1,fracsC d2,intC e]))/\ (e=0 ->MulV rs d1/\ MulV rs d2))/\
   ∀(w:Wr) (p:Int × Int) (lo up:List Fr),MulV rs lo ->MulV rs up ->∃b:Bool,Ok prog 21 [rssC out,tiC 60 q,wrC w,ivC p,fracsC lo,fracsC up] (boolC b)/\ (b=true ->p.1<=tmF ts w/\ tmF ts w<=p.2):=by
 obtain ⟨h1,h2,h3⟩:=tr_ms hl hts hq hM h ho;obtain ⟨v1,v2,v3,v4,v5,v6⟩:=tr_vr hl hts hq hM h ho;have ht:tiB 60 q=true:=decide_eq_true (by omega);have hrw:=tr_rw hl hts hq hM h ho ht;have hrl:=rowsD_len (vrF out) 60 q (msF out);have hR:=DRows_ok out (by omega) 60 q;rw [hrw] at hR;refine ⟨rowsD (vrF out) 60 q (msF out),(msF out).map (fun m=>idOf m.1),by omega,hR,fun w=> ?_,fun w p lo up hlo hup=> ?_⟩
 · by_cases hw:w∈vrF out
   · obtain ⟨p,O1,O2,hB,hI⟩:=tr_bounds hl hts hq hM h ho (Int.le_refl _) (Int.le_refl _) ht ((posD_at v2).1 hw).1;have hE:=ends_fine out (by omega) 60 q w (by rw [hrw]) (by rw [v1];exact hw) (by rw [v1];exact v2) (by rw [v1];dsimp only;omega) (O1:=O1) (O2:=O2) (p:=p) (by rw [hrw,v1];exact hB);exact ⟨O1.dual,O2.dual,0,Prove_ok out 60 q w O1 O2 hE,fun _=>⟨dual_mul hI.s1 (by omega) hI.k1,dual_mul hI.s2 (by omega) hI.k2⟩⟩
   · have hE:=ends_miss out (by omega) 60 q w (by rw [hrw]) (by rw [v1];exact hw) (by rw [v1];exact v2) (by rw [v1];dsimp only;omega);exact ⟨[],[],8,Prove_ok out 60 q w oc0 oc0 hE,fun h=>by cases h⟩
 · have hv:validR ((vrF out).length:Int) (rowsD (vrF out) 60 q (msF out))=true:=rowsD_valid (by omega) (by omega) (fun m hm=>⟨me_wires out m hm,(me_time out m hm).2⟩) ht;have hC:=Check_ok out (by omega) 60 q w p lo up (by rw [hrw]) (by rw [v1];exact v2) (by rw [v1];dsimp only;omega) (by rw [hrw,v1];exact hv) (by rw [hrw];exact hlo) (by rw [hrw];exact hup);rw [hrw,v1] at hC;exact ⟨_,hC,fun hb=>ck_sound v2 hlo hup hb (tr_feas hl hts hq hM h ho)⟩
end
end Go.Proofs.YtojkdfilabmafaaGreat
namespace Go.Proofs.YtojkdfilabmafaaGreat
open Go.Own Go.Limbs Go.Proofs.Tryz
attribute [local irreducible] St Ops Go.Own.Fin Ok OkB OkN OkT OkL OkF OkM OkMv
theorem sIvs:SlcT prog 65 39 2 16 (.agg #[.int .i64 0, .int .i64 0]):=SlcT.of underlying65 (by kernel_rfl) rfl (by decide)
abbrev ivsC (l : List (Int × Int)) : CT := .fr (sliceT 2 (l.map ivCs))
theorem ivs_at{l:List (Int × Int)}{j:Int}(h0:0<=j)(h:j<(l.length:Int)):(l.map ivCs)[j.toNat]? =some (ivCs (l.getD j.toNat (0,0))):=by
 have:j.toNat<l.length:=by omega
 simp [List.getElem?_map,List.getElem?_eq_getElem this,List.getD_eq_getElem?_getD]
theorem tmF_n(ts:List Int):∀n,n<7 ->tmF ts ((wiB 2).getD n wr0)=ts.getD n 0
 |0,_=>by show (0:Int)+ts.getD 0 0=_;rw [Int.zero_add]
 |1,_=>by show (0:Int)+ts.getD 1 0=_;rw [Int.zero_add]
 |2,_=>by show (0:Int)+ts.getD 2 0=_;rw [Int.zero_add]
 |3,_=>by show (0:Int)+ts.getD 3 0=_;rw [Int.zero_add]
 |4,_=>by show (0:Int)+ts.getD 4 0=_;rw [Int.zero_add]
 |5,_=>by show (0:Int)+ts.getD 5 0=_;rw [Int.zero_add]
 |6,_=>by show (0:Int)+ts.getD 6 0=_;rw [Int.zero_add]
 |n+7,h=>by omega
theorem Fractions_mul(bs:List Int)(p:Nat)(rs:List Rw)(h1:rs.length<=64)(hb:Bytes bs):
  OkB prog 18 98 (codes bs p) [intC rs.length] (fun q:List Fr × Nat=>MulV rs q.1) (fun q=>fracsC q.1) (fun q=>codes bs q.2):=
 (Fractions_any bs p rs.length (by omega) (by omega) hb).weak fun q hq=>⟨(q.1.map ofQ,q.2),MulV.small (by omega) hq.2,ratsC_fr q.1,rfl⟩
set_option maxRecDepth 20000 in
theorem DelayProved_ok(bs:List Int)(p0:Int × Int)(kb:Int)(hb:∀b∈bs,0<=b/\ b<256)(_hp:(-9223372036854775808<=p0.1/\ p0.1<=9223372036854775807)/\ (-9223372036854775808<=p0.2/\ p0.2<=9223372036854775807))(hkb:0<=kb/\ kb<256):Ok prog 6 [bytesC bs,ivC p0, .ex (.int .u8 kb)] (boolC true):=by
 refine Ok.enter func6 J _ ntmps6 J ?_
 intro S w;have hB:Bytes (bs.take 400):=⟨fun b h=>(hb b (List.mem_of_mem_take h)).1,fun b h=>(hb b (List.mem_of_mem_take h)).2,by simp;omega⟩;have hck:IntKind.i64.wrap kb=kb:=Z5 (by omega) (by omega);have hT:=truth_ok bs hB 5 3 (by omega) (by omega);refine Qj (Qx (Xx 4 J J J J J J J (Qy J J J (Qz (Qq (Qj (Qj ?_)))))));refine Qx (QJ goDAwake DAwake_ok J J J J (Qr J J J (Qz (Qq (Qt J (QU (Qq (Qj ?_))))))));refine Qx (Qv J J J (Ops.callM [(4,_)] (fun _=>true) gotruth hT J J J (fun _ h=>h.elim) (fun _=>rfl) (fun j _=>⟨rfl,fun _=>rfl⟩) (fun j _=> .inr fun _=>rfl) (fun p hp=>by cases hp) (fun q j hj=>by rcases hj with hj|⟨o,hj⟩ <;>cases hj) (fun x hx=> ?_)));obtain ⟨ts,M,out⟩:=x;obtain ⟨hl,hts,hM,hP,hol,_⟩:=hx;dsimp only at hl hts hM hP hol ⊢;obtain ⟨rs,is,hrl,hR,hPr,hCk⟩:=tr_proved hl hts (by omega) hM hP hol;have htm:=tmF_n ts;have hRoll:=Roll_ok bs;have hw7:=wiT_len;clear hT hP hM;generalize wiB 2=ws at*;generalize bs.take 400=B0 at*;generalize tmF ts=T at*;refine Qv J J J (QV J J J J (QV J J J J (QV J J J J (Qk 3 J (Qz (Qq (Qj ?_)))))))
 refine Qx (Qm J bTi J (.one J J J J (.one J J J J .nil)) J (Qb 2 J J zvTi J J J (Q7 2 J J J J J szTi J J (Qz (Qq (Qj ?_))))));refine Qx (Qv J J J (Qa (n:=2) J J J J J lTi J (QJ goDRows hR J J J J (Qv J J J (QV J J J J (QV J J J J (QV J J J J (Qk 3 J (Qz (Qq (Qj (Qj ?_))))))))))));refine Qx (Qv J J J (Qw ineq J J J J (Qz (Qq (Qt J (QU (Qq (Qj ?_))))))));refine Qx (Qv J J J (Ops.callN 0 goRoll hRoll J J J J J J (Qy J J J (Qz (Qq (Qj ?_))))));refine Qx (Qv J J J (ZU (q:=kb) J J uU8 uInt hck J (Qv J J J (Q9 J J sWrs.und (List.length_map ..) J (Qw (irem (q:=ws.length) (by omega) (by omega)) J J J J ?_)))))
 have h7:(ws.length:Int)=7:=by omega
 have hnn:0<=kb%(ws.length:Int)/\ kb%(ws.length:Int)<7:=by rw [h7];omega
 obtain ⟨n,hn⟩:∃n:Nat,kb%(ws.length:Int)=n:=⟨(kb%(ws.length:Int)).toNat,by omega⟩
 have hn7:n<7:=by omega
 rw [hn];clear hn;have htn:=htm n hn7;have htb:0<=ts.getD (n:Int).toNat 0/\ ts.getD (n:Int).toNat 0<=60:=hts _ (by show ts.getD n 0∈ts;rw [List.getD_eq_getElem?_getD,List.getElem?_eq_getElem (by omega)];exact List.getElem_mem _);have hgw:=wrs_at (l:=ws) (j:=(n:Int)) (by omega) (by omega);rw [show (n:Int).toNat=n from rfl] at hgw;have hPr:=hPr (ws.getD n wr0);have hCk:=hCk (ws.getD n wr0);rw [htn] at hCk;have hCk:∀(p:Int × Int) (lo up:List Fr),MulV rs lo ->MulV rs up ->∃b:Bool,Ok prog 21 [rssC out,tiC 60 5,wrC (ws.getD n wr0),ivC p,fracsC lo,fracsC up] (boolC b)/\ (b=true ->p.1<=ts.getD (n:Int).toNat 0/\ ts.getD (n:Int).toNat 0<=p.2):=hCk;clear htm htn hR;generalize ws.getD n wr0=x at*;refine Qy J J J (Qz (Qq (Qj ?_)));refine Qx (Qk 2 J (Q9 J J sRows.und (List.length_map ..) J (Zf goFractionsD (Fractions_mul B0 0 rs hrl hB) J J J J J (fun z hz1=> ?_))));obtain ⟨y1,c1⟩:=z;dsimp only at hz1 ⊢;refine Qk 2 J (Q9 J J sRows.und (List.length_map ..) J (Zf goFractionsD (Fractions_mul B0 c1 rs hrl hB) J J J J J (fun z hz2=> ?_)));obtain ⟨y2,c2⟩:=z;dsimp only at hz2 ⊢;refine Qk 2 J (Qz (Qq (Qj ?_)))
 refine YW (α:=List Fr × List Fr × Nat) (fun z=>MulV rs z.1/\ MulV rs z.2.1)
  (fun z=>[(4, .own 4),(7, .ct (rssC out)),(8, .ct (wrsC ws)),(9, .ct (intsC ts)),(10, .own 2),(15, .ct (intC n)),(16, .ct (fracsC z.1)),(17, .ct (fracsC z.2.1))])
  (fun z=>[(0, .box 98 (codes B0 z.2.2)),(2, .box 32 (tiCs 60 5)),(4, .box 39 (ivCs p0))]) (fun z hz=> ?_) (fun KN hM=> ?_)
 rotate_left
 · obtain ⟨d1,d2,e,hPv,hMv⟩:=hPr;refine Qj (Xy mixed 14 (.p 0 (.p 2 (.p 3 (.p 4 (.f 1 (.f 5 (.m 6 (.p 7 (.p 8 (.p 9 (.p 10 (.p 11 (.p 12 (.p 13 .done)))))))))))))) (by kernel_rfl) (fun K hK=> ?_));refine Qk 3 J (Ql J J J sWrs (by omega) hgw J ?_);skip;refine Qa (n:=2) J J J J J lTi J (Xe (n:=2) J J J YK J J (QJ goProve hPv J J J J (Qv J J J (QV J J J J (QV J J J J (QV J J J J (Qk 3 J (Qz (hK _ _ (Qq (Qj ?_)))))))))));clear hK K;refine Qx (Qv J J J (Qw ieql J J J J (Qv J J J (Qe 70 J (fun g=> ?_) (fun g=> ?_)))))
   · obtain ⟨m1,m2⟩:=hMv g;refine Qv J J J (Zf goBool (BoolB_ok B0 c2 2 (by decide) (by decide) hB) J J J J J (fun z hz3=> ?_));obtain ⟨b,c3⟩:=z;dsimp only
     cases b with
     |true=>
      refine Zx J J J J (Qz (Qq (Xk J ?_)));refine Qx (Qk 4 J (Qz ?_));exact XQ hM (d1,d2,c3) ⟨m1,m2⟩ (QX J ⟨rfl,rfl,rfl,rfl,rfl,rfl,rfl,rfl,trivial⟩)
     |false=>
      refine Zx J J J J (Qz (Qq (Qt J (QU ?_))));exact XQ hM (y1,y2,c3) ⟨hz1,hz2⟩ (QX J ⟨rfl,rfl,rfl,rfl,rfl,rfl,rfl,rfl,trivial⟩)
   · refine Qk 3 J (Qz (Qq (Qt J (QU ?_))));exact XQ hM (y1,y2,c2) ⟨hz1,hz2⟩ (QX J ⟨rfl,rfl,rfl,rfl,rfl,rfl,rfl,rfl,trivial⟩)
 obtain ⟨lo,up,c3⟩:=z;obtain ⟨hlo,hup⟩:=hz;dsimp only at hlo hup ⊢;clear hPr hz1 hz2;refine Qj (Xy mixed 17 (.p 1 (.p 2 (.p 3 (.p 4 (.p 5 (.p 9 (.p 10 (.p 11 (.f 0 (.f 6 (.p 7 (.p 8 (.f 12 (.p 13 (.p 14 (.m 15 (.p 16 .done))))))))))))))))) (by kernel_rfl) (fun K hK=> ?_));refine Qm J bIv J (.one J J J J .nil) J (Qm J bIv J (.one J J J J (.one J J J J .nil)) J (Qk 2 J (Ql J J J sInts (by omega) (XK (by omega) (by omega)) J ?_)));refine Qk 2 J (Ql J J J sInts (by omega) (XK (by omega) (by omega)) J ?_);refine Qa (n:=2) J J J J J lIv J (Xj J J J lInt J (Qw (iadd (by omega) (by omega)) J J J J ?_));refine Qm J bIv J (.one J J J J (.one J J J J .nil)) J (Xj J J J lInt J (Qw (isub (by omega) (by omega)) J J J J ?_))
 refine Qm J bIv J (.one J J J J .nil) J ?_
 generalize ht:ts.getD (n:Int).toNat 0=t at htb hCk ⊢
 refine Ops.lit (m:=5) (n:=2) (cs:=ivCs p0++ivCs (0,30)++ivCs (5,60)++ivCs (t+1,1000)++ivCs (0,t - 1)) J J sIvs (.agg J J J J (.agg J J J J (.agg J J J J (.agg J J J J (.agg J J J J .nil))))) (by decide) J ?_
 refine Qy J J J (Qz (hK _ _ (Qq (Qj (Qj ?_)))));clear hK K;refine Qx (Qv J J J (Q9 (m:=5) J J sIvs.und J J (Qv J J J (Qz (Qq (Q2 ?_))))));generalize hiv:[p0,(0,30),(5,60),(t+1,1000),(0,t - 1)]=iv
 have hil:iv.length=5:=by rw [<- hiv];rfl
 refine Qn (α:=Nat) (fun i=>i<=5)
  (fun i=>[(7, .ct (rssC out)),(8, .ct (wrsC ws)),(9, .ct (intsC ts)),(10, .own 2),(15, .ct (intC n)),(16, .ct (fracsC lo)),(17, .ct (fracsC up)),(92, .ct (ivsC iv)),(93, .ct (intC 5)),(94, .ct (intC i))])
  (fun _=>[(0, .box 98 (codes B0 c3)),(2, .box 32 (tiCs 60 5)),(4, .box 39 (ivCs p0))]) (fun i=>5 - i) 0 (Nat.zero_le _) (by rw [<- hiv];exact QX J ⟨rfl,rfl,rfl,rfl,rfl,rfl,rfl,rfl,rfl,rfl,trivial⟩) ?_
 clear hiv;intro i hi
 try dsimp only at hi ⊢
 refine Qj (Qx ?_);refine Qw ilss J J J J (Qz (Qq (Qj ?_)));refine Q1 J (fun g=> ?_) (fun g=> ?_);rotate_left
 · refine Qi (Qq (Qj (Qx ?_)));refine Qy J J J (Qz (Qq (Q0 ?_)));refine QK [_] rfl (Qu J QQ) J J
 refine QU (Qq (Qj (Q2 (Qj (Qx ?_)))))
 refine Ql J J J sIvs (by omega) (ivs_at (by omega) (by omega)) J ?_
 generalize iv.getD (i:Int).toNat (0,0)=d;obtain ⟨b,hC,hbt⟩:=hCk d lo up hlo hup;refine Xe (n:=2) J J J lIv J J (Qb 5 J J zvIv J J J (Q7 2 J J J J J szIv J J (Qz (Qq (Qj ?_)))));refine Xy mixed 28 (.p 0 (.p 2 (.p 3 (.p 4 (.p 7 (.p 8 (.f 1 (.f 5 (.f 6 (.m 9 (.p 10 (.p 11 (.p 13 (.p 14 (.p 15 (.f 12 (.f 16 (.p 17 (.p 18 (.p 19 (.p 20 (.p 21 (.p 23 (.f 22 (.f 24 (.p 25 (.p 26 (.p 27 .done)))))))))))))))))))))))))))) (by kernel_rfl) (fun K hK=> ?_);refine Qk 3 J (Ql J J J sWrs (by omega) hgw J ?_);refine Qk 2 J (Qa (n:=2) J J J J J lTi J (Xe (n:=2) J J J YK J J (Qa (n:=2) J J J J J lIv J (QJ goCheck hC J J J J ?_))));clear hC hCk
 cases b with
 |false=>
  refine Qk 18 J (Qz (hK _ _ (Qq (Qt J (QU (Qq ?_))))));clear hK K;refine Qx (Qw (iadd (by omega) (by omega)) J J J J ?_);refine Qv J J J (Qz (Q5 ?_));refine Xv 5 (Q6 (i+1) (by omega) (by omega) (by exact QX J ⟨rfl,rfl,rfl,rfl,rfl,rfl,rfl,rfl,rfl,by simp only [Int.natCast_add];rfl,trivial⟩))
 |true=>
  obtain ⟨l1,l2⟩:=hbt rfl;refine Qv J J J (QY J J J fIv0 J (Qk 2 J (Ql J J J sInts (by omega) (XK (by omega) (by omega)) J ?_)));refine QZ J J J J J lInt J (Xj J J J lInt J (Qw igtr J J J J (Qv J J J ?_)));rw [ht];skip;refine Qe 116 J (fun g=>absurd g (by omega)) (fun _=> ?_);refine Qk 2 J (Ql J J J sInts (by omega) (XK (by omega) (by omega)) J ?_);rw [ht];refine QY J J J fIv1 J (Xj J J J lInt J (QZ J J J J J lInt J (Qw igtr J J J J (Qk 2 J (Qz (hK _ _ (Qq ?_)))))));clear hK K;refine Q1 J (fun g=>absurd g (by omega)) (fun _=> ?_);refine QU (Qq (Qx ?_))
  refine Qw (iadd (by omega) (by omega)) J J J J ?_
  refine Qv J J J (Qz (Q5 ?_));refine Xv 5 (Q6 (i+1) (by omega) (by omega) (by exact QX J ⟨rfl,rfl,rfl,rfl,rfl,rfl,rfl,rfl,rfl,by simp only [Int.natCast_add];rfl,trivial⟩))
end Go.Proofs.YtojkdfilabmafaaGreat
namespace Go.Proofs.YtojkdfilabmafaaGreat
open Go.Own Go.Limbs Go.Proofs.Tryz
section
variable {H : Type} {enc : TypeId × Value → H} {P : Program} {w : World} {base : Nat} {spare : Nat → Bool} {held : Bool}
theorem slice_in{α:Type}{t e:TypeId}{n fuel:Nat}{cs0:List Value}{x:DataW H × List MemPlace}(ht:P.underlying t=some (.slice e))(hn:P.cellsOf e=n)(hn0:0<n)(f:α ->List CT)(hf:∀z,(f z).length=n)(good:α ->Prop)
  (hE:∀m cs y,DataW.trod enc P w base spare held m e cs=some y ->cs.length=n ->∃z,cells (fun _=>True) w (f z) cs/\ good z)
  (h:DataW.trod enc P w base spare held fuel t cs0=some x):∃(v:Value) (zs:List α),cs0=[v]/\ zs.length<=9223372036854775807/\ (∀z∈zs,good z)/\ (CT.fr (sliceT n (zs.map f))).p (fun _=>True) w v:=by
 rcases DataW.trod_slice ht h with ⟨h0,_⟩|⟨a,len,cap,elems,rest,m,_,rfl,rfl,_,hl,hm,hlen,hel,_⟩
 · exact ⟨_,[],h0,Nat.zero_le _,(fun z hz=>nomatch hz),nil_is n _ w⟩
 rw [hn] at hel
 have key:∀k,k<=len ->∃(zs:List α) (vs:List Value),zs.length=k/\ (∀z∈zs,good z)/\ cells (fun _=>True) w (zs.map f).flatten vs/\ vs.length=k*n/\ ∀i u,vs[i]? =some u ->w.cell? (a.add i)=some u:=by
  intro k
  induction k with
  |zero=>intro _;exact ⟨[],[],rfl,(fun z hz=>nomatch hz),trivial,(Nat.zero_mul n).symm,fun i u hu=>by simp at hu⟩
  |succ k ih=>
   intro hk
   obtain ⟨zs,vs,e1,e2,e3,e4,e5⟩:=ih (by omega)
   have h1:=hel k (by omega)
   rw [List.getElem?_eq_getElem (show k<elems.length by omega),Option.bind_eq_some_iff] at h1
   obtain ⟨cs,h2,h3⟩:=h1
   obtain ⟨_,h4,h5⟩:=World.cells?_some h2
   obtain ⟨z,h6,h7⟩:=hE _ _ _ h3 h4
   refine ⟨zs++ [z],vs++cs,by simp [e1],?_,?_,by rw [List.length_append,e4,h4,Nat.succ_mul],?_⟩
   · intro y hy
     rcases List.mem_append.1 hy with hy|hy
     · exact e2 y hy
     · rw [List.mem_singleton.1 hy];exact h7
   · rw [List.map_append,List.flatten_append]
     refine cells.append e3 ?_
     simpa using h6
   · intro i u hu
     rcases Nat.lt_or_ge i (k*n) with hi|hi
     · rw [List.getElem?_append_left (by omega)] at hu
       exact e5 i u hu
     · rw [List.getElem?_append_right (by omega),e4] at hu
       have hlt:i - k*n<n:=by
        have:=(List.getElem?_eq_some_iff.1 hu).1
        omega
       have:=h5 (i - k*n) hlt
       rw [Addr.add_add,show k*n+(i - k*n)=i by omega] at this
       rw [this,hu]
 obtain ⟨zs,vs,e1,e2,e3,e4,e5⟩:=key len (Nat.le_refl _)
 have hmx:maxLen=9223372036854775807:=by decide
 refine ⟨_,zs,rfl,by omega,e2,some a,cap,by rw [List.length_map,e1],by rw [List.length_map,e1];exact hl,hm,fun y hy=>by obtain ⟨z,_,rfl⟩:=List.mem_map.1 hy;exact hf z,fun hne=> ?_⟩
 have hpos:0<len:=by
  rcases Nat.eq_zero_or_pos len with h0|h0
  · rw [h0] at e1;rw [List.length_eq_zero_iff.1 e1] at hne;exact absurd rfl hne
  · exact h0
 have hvl:0<vs.length:=by rw [e4];exact Nat.mul_pos hpos hn0
 have h0:=e5 0 _ (List.getElem?_eq_getElem hvl)
 obtain ⟨b,o,sp⟩:=a
 have hsp:sp=none/\ b<w.heap.size:=by
  simp only [Addr.add,if_true,World.cell?] at h0
  cases e:w.heap[b]? with
  |none=>rw [e] at h0;cases h0
  |some ob=>
   rw [e] at h0
   cases ob with
   |cells c t r=>
    refine ⟨?_,Z4 e⟩
    cases sp with
    |none=>rfl
    |some q=>simp at h0
   |_=>cases h0
 obtain ⟨rfl,hb⟩:=hsp
 refine ⟨b,o,rfl,trivial,hb,vs,e3,fun i u hu=> ?_⟩
 have h1:=e5 i u hu
 have h3:(⟨b,o,none⟩:Addr).add i=⟨b,o+i,none⟩:=by
  unfold Addr.add
  split
  · rename_i h;subst h;rfl
  · rfl
 rw [h3] at h1
 exact h1
theorem bytes_in{t e:TypeId}{fuel:Nat}{cs0:List Value}{x:DataW H × List MemPlace}(ht:P.underlying t=some (.slice e))(he:P.underlying e=some (.int .u8))(hn:P.cellsOf e=1)
  (h:DataW.trod enc P w base spare held fuel t cs0=some x):∃(v:Value) (zs:List Int),cs0=[v]/\ (∀z∈zs,0<=z/\ z<256)/\ (bytesC zs).p (fun _=>True) w v:=by
 obtain ⟨v,zs,h1,_,h2,h3⟩:=slice_in ht hn (by decide) (fun z:Int=>[CT.ex (Value.int .u8 z)]) (fun _=>rfl) (fun z=>0<=z/\ z<256) (fun m cs y hy _=>by
  obtain ⟨z,rfl,_,hw⟩:=DataW.trod_int he hy
  exact ⟨z,⟨rfl,trivial⟩,by have:=bounds_u8 hw;omega⟩) h
 exact ⟨v,zs,h1,h2,h3⟩
end
theorem agg_in{P:Program}{w:World}{r:Reach}{b0:Nat}{t:TypeId}{fs:Array Field}{v:Value}(hu:P.underlying t=some (.struct fs))(h:Value.okWide P w r b0 t v):∃cs:List Value,v= .agg cs.toArray:=by
 simp only [Value.okWide,hu] at h
 obtain ⟨cs,h1,_,_⟩:=h
 exact ⟨cs.toList,by simpa using h1⟩
section
variable {H : Type} {enc : TypeId × Value → H} {w : World} {base : Nat} {spare : Nat → Bool} {held : Bool} {fuel : Nat} {cs : List Value} {x : DataW H × List MemPlace}
def InI (a : Int) : Prop := -9223372036854775808 ≤ a ∧ a ≤ 9223372036854775807
theorem iv_cells(hy:DataW.trod enc prog w base spare held fuel 39 cs=some x):∃p:Int × Int,cells (fun _=>True) w (ivCs p) cs/\ InI p.1/\ InI p.2:=by
 obtain ⟨xs,k,rfl,rfl,hl,h2,h3⟩:=DataW.trod_struct underlying39 hy
 have hl:cs.length=2:=hl.trans (by kernel_rfl)
 have f0:=h3 0 _ rfl
 have f1:=h3 1 _ rfl
 rw [List.getElem?_eq_getElem (show 0<xs.length by rw [h2];decide)] at f0
 rw [List.getElem?_eq_getElem (show 1<xs.length by rw [h2];decide)] at f1
 obtain ⟨c0,c1,rfl⟩:∃a b,cs=[a,b]:=by
  rcases cs with _|⟨a,_|⟨b,_|⟨c,l⟩⟩⟩ <;>simp only [List.length_nil,List.length_cons] at hl
  · omega
  · omega
  · exact ⟨a,b,rfl⟩
  · omega
 rw [show prog.cellsOf _=1 from by kernel_rfl] at f0 f1
 obtain ⟨z0,e0,_,w0⟩:=DataW.trod_int underlying3 f0
 injection e0 with e0 _
 have e0:c0= .int _ z0:=e0
 subst e0
 obtain ⟨z1,e1,_,w1⟩:=DataW.trod_int underlying3 f1
 injection e1 with e1 _
 have e1:c1= .int _ z1:=e1
 subst e1
 exact ⟨(z0,z1),⟨rfl,rfl,trivial⟩,bounds_i64 w0,bounds_i64 w1⟩
end
end Go.Proofs.YtojkdfilabmafaaGreat
